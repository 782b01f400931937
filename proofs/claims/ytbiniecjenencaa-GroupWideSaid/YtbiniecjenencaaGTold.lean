/- What is told of what is known. -/
import Derived.Test.YtbiniecjenencaaGKnown
set_option linter.unusedVariables false
set_option linter.unusedSimpArgs false
set_option maxRecDepth 10000
namespace Go.Proofs.Ytbiniecjenencaa
open Go.RowKit
def numG (n : Int) : V := ⟨2, n, ⟨#[]⟩⟩
/-- What is told, and the error. -/
def Kn.told (K : Kn) (op : Int) : V × Int :=
  if op = 1 then (numG K.rows, 0) else if op = 2 then (numG K.some, 0) else if op = 4 then (K.least, 0) else if op = 5 then (K.most, 0) else
  if K.some = 0 then (V.zero, 0) else if narB K.hi K.lo = true then (numG (narN K.hi K.lo), 0) else (V.zero, 220)
theorem told_err (K : Kn) (op : Int) : (K.told op).2 = 0 ∨ (K.told op).2 = 220 := by
  unfold Kn.told
  repeat' split
  all_goals first | exact .inl rfl | exact .inr rfl
set_option maxRecDepth 100000 in
set_option maxHeartbeats 8000000 in
theorem ktold_any (K : Kn) (op : Int) (g m : Nat) (w : World) (z : At w g K.cells 83) (hK : K.ok m) (hm : m ≤ 1000000) :
    Calls Try.prog 45 #[.pointer (some ⟨g, 0, none⟩), .int .u8 op] w (fun e w' => e = .returned (.tuple #[(K.told op).1.val, .int .i64 (K.told op).2]) ∧ Below w.heap.size w w') := by
  obtain ⟨ro, so, hi, lo, ⟨lk, ln, ls⟩, ⟨mk, mn, ms⟩⟩ := K
  obtain ⟨h1, h2, h3, h4, h5, h6⟩ := hK
  simp only [Kn.cells] at z h1 h2 h3 h4 h5 h6
  by_cases o1 : op = 1
  ·
    subst o1
    have e0 : Kn.told ⟨ro, so, hi, lo, ⟨lk, ln, ls⟩, ⟨mk, mn, ms⟩⟩ 1 = (numG (ro), 0) := by
      unfold Kn.told
      exact if_pos rfl
    rw [e0]
    clear e0
    simp only [V.val, numG, V.zero]
    have z2 := z.alloc (.cells #[.int .u8 0, .int .i64 0, .string ⟨#[]⟩] 38)
    have zr := At.new w #[.int .u8 0, .int .i64 0, .string ⟨#[]⟩] 38
    have b1 := (Below.refl w.heap.size w).alloc (Nat.le_refl _) (.cells #[.int .u8 0, .int .i64 0, .string ⟨#[]⟩] 38)
    clear z
    go_enter Try.func45, Try.ntmps45
    go_upto_region 1 with fail
    generalize w.alloc (.cells #[.int .u8 0, .int .i64 0, .string ⟨#[]⟩] 38) = wA at z2 zr b1 ⊢
    have hgr : w.heap.size ≤ w.heap.size := Nat.le_refl _
    skip
    have c0 := z2.cell 0 rfl
    go_wp2_with (first | (at_make; refine Stop.un ?_) | (at_builtin; refine Stop.un ?_) | (with_reducible refine Stop.conv 22 9 ?_) | (with_reducible refine Stop.conv 9 22 ?_))
    refine (gnumber_any _ _).mono ?_
    rintro e wo ⟨rfl, bo⟩
    replace zr := zr.mono bo
    replace z2 := z2.mono bo
    replace b1 := b1.next bo
    clear bo
    have fq0 := zr.free 0
    have gq0 := zr.cell 0 rfl
    have fq1 := zr.free 1
    have gq1 := zr.cell 1 rfl
    have fq2 := zr.free 2
    have gq2 := zr.cell 2 rfl
    have lq := zr.lt
    go_wp2_with (first | (at_make; refine Stop.un ?_) | (at_builtin; refine Stop.un ?_) | (with_reducible refine Stop.conv 22 9 ?_) | (with_reducible refine Stop.conv 9 22 ?_))
    have RQ := zr.set3 (.int .u8 2) (.int .i64 (ro)) (.string ⟨#[]⟩)
    have rq0 := RQ.cell 0 rfl
    have rq1 := RQ.cell 1 rfl
    have rq2 := RQ.cell 2 rfl
    have rql := RQ.lt
    exact bodyPost_ret (v := .tuple #[.agg #[.int .u8 2, .int .i64 (ro), .string ⟨#[]⟩], .int .i64 0]) (by simp [results, Try.results45, go_sem, rq0, rq1, rq2]) rfl ⟨by first | rfl | simp, below_set3 b1 _ _ _ (Nat.le_refl _)⟩
  · by_cases o2 : op = 2
    ·
      subst o2
      have e0 : Kn.told ⟨ro, so, hi, lo, ⟨lk, ln, ls⟩, ⟨mk, mn, ms⟩⟩ 2 = (numG (so), 0) := by
        unfold Kn.told
        rfl
      rw [e0]
      clear e0
      simp only [V.val, numG, V.zero]
      have z2 := z.alloc (.cells #[.int .u8 0, .int .i64 0, .string ⟨#[]⟩] 38)
      have zr := At.new w #[.int .u8 0, .int .i64 0, .string ⟨#[]⟩] 38
      have b1 := (Below.refl w.heap.size w).alloc (Nat.le_refl _) (.cells #[.int .u8 0, .int .i64 0, .string ⟨#[]⟩] 38)
      clear z
      go_enter Try.func45, Try.ntmps45
      go_upto_region 1 with fail
      generalize w.alloc (.cells #[.int .u8 0, .int .i64 0, .string ⟨#[]⟩] 38) = wA at z2 zr b1 ⊢
      have hgr : w.heap.size ≤ w.heap.size := Nat.le_refl _
      skip
      have c1 := z2.cell 1 rfl
      go_wp2_with (first | (at_make; refine Stop.un ?_) | (at_builtin; refine Stop.un ?_) | (with_reducible refine Stop.conv 22 9 ?_) | (with_reducible refine Stop.conv 9 22 ?_))
      refine (gnumber_any _ _).mono ?_
      rintro e wo ⟨rfl, bo⟩
      replace zr := zr.mono bo
      replace z2 := z2.mono bo
      replace b1 := b1.next bo
      clear bo
      have fq0 := zr.free 0
      have gq0 := zr.cell 0 rfl
      have fq1 := zr.free 1
      have gq1 := zr.cell 1 rfl
      have fq2 := zr.free 2
      have gq2 := zr.cell 2 rfl
      have lq := zr.lt
      go_wp2_with (first | (at_make; refine Stop.un ?_) | (at_builtin; refine Stop.un ?_) | (with_reducible refine Stop.conv 22 9 ?_) | (with_reducible refine Stop.conv 9 22 ?_))
      have RQ := zr.set3 (.int .u8 2) (.int .i64 (so)) (.string ⟨#[]⟩)
      have rq0 := RQ.cell 0 rfl
      have rq1 := RQ.cell 1 rfl
      have rq2 := RQ.cell 2 rfl
      have rql := RQ.lt
      exact bodyPost_ret (v := .tuple #[.agg #[.int .u8 2, .int .i64 (so), .string ⟨#[]⟩], .int .i64 0]) (by simp [results, Try.results45, go_sem, rq0, rq1, rq2]) rfl ⟨by first | rfl | simp, below_set3 b1 _ _ _ (Nat.le_refl _)⟩
    · by_cases o4 : op = 4
      ·
        subst o4
        have e0 : Kn.told ⟨ro, so, hi, lo, ⟨lk, ln, ls⟩, ⟨mk, mn, ms⟩⟩ 4 = (⟨lk, ln, ls⟩, 0) := by
          unfold Kn.told
          rfl
        rw [e0]
        clear e0
        simp only [V.val, numG, V.zero]
        have z2 := z.alloc (.cells #[.int .u8 0, .int .i64 0, .string ⟨#[]⟩] 38)
        have zr := At.new w #[.int .u8 0, .int .i64 0, .string ⟨#[]⟩] 38
        have b1 := (Below.refl w.heap.size w).alloc (Nat.le_refl _) (.cells #[.int .u8 0, .int .i64 0, .string ⟨#[]⟩] 38)
        clear z
        go_enter Try.func45, Try.ntmps45
        go_upto_region 1 with fail
        generalize w.alloc (.cells #[.int .u8 0, .int .i64 0, .string ⟨#[]⟩] 38) = wA at z2 zr b1 ⊢
        have hgr : w.heap.size ≤ w.heap.size := Nat.le_refl _
        skip
        have c4 := z2.cell 4 rfl
        have c5 := z2.cell 5 rfl
        have c6 := z2.cell 6 rfl
        have fq0 := zr.free 0
        have gq0 := zr.cell 0 rfl
        have fq1 := zr.free 1
        have gq1 := zr.cell 1 rfl
        have fq2 := zr.free 2
        have gq2 := zr.cell 2 rfl
        have lq := zr.lt
        go_wp2_with (first | (at_make; refine Stop.un ?_) | (at_builtin; refine Stop.un ?_) | (with_reducible refine Stop.conv 22 9 ?_) | (with_reducible refine Stop.conv 9 22 ?_))
        have RQ := zr.set3 (.int .u8 lk) (.int .i64 ln) (.string ls)
        have rq0 := RQ.cell 0 rfl
        have rq1 := RQ.cell 1 rfl
        have rq2 := RQ.cell 2 rfl
        have rql := RQ.lt
        exact bodyPost_ret (v := .tuple #[.agg #[.int .u8 lk, .int .i64 ln, .string ls], .int .i64 0]) (by simp [results, Try.results45, go_sem, rq0, rq1, rq2]) rfl ⟨by first | rfl | simp, below_set3 b1 _ _ _ (Nat.le_refl _)⟩
      · by_cases o5 : op = 5
        ·
          subst o5
          have e0 : Kn.told ⟨ro, so, hi, lo, ⟨lk, ln, ls⟩, ⟨mk, mn, ms⟩⟩ 5 = (⟨mk, mn, ms⟩, 0) := by
            unfold Kn.told
            rfl
          rw [e0]
          clear e0
          simp only [V.val, numG, V.zero]
          have z2 := z.alloc (.cells #[.int .u8 0, .int .i64 0, .string ⟨#[]⟩] 38)
          have zr := At.new w #[.int .u8 0, .int .i64 0, .string ⟨#[]⟩] 38
          have b1 := (Below.refl w.heap.size w).alloc (Nat.le_refl _) (.cells #[.int .u8 0, .int .i64 0, .string ⟨#[]⟩] 38)
          clear z
          go_enter Try.func45, Try.ntmps45
          go_upto_region 1 with fail
          generalize w.alloc (.cells #[.int .u8 0, .int .i64 0, .string ⟨#[]⟩] 38) = wA at z2 zr b1 ⊢
          have hgr : w.heap.size ≤ w.heap.size := Nat.le_refl _
          skip
          have c7 := z2.cell 7 rfl
          have c8 := z2.cell 8 rfl
          have c9 := z2.cell 9 rfl
          have fq0 := zr.free 0
          have gq0 := zr.cell 0 rfl
          have fq1 := zr.free 1
          have gq1 := zr.cell 1 rfl
          have fq2 := zr.free 2
          have gq2 := zr.cell 2 rfl
          have lq := zr.lt
          go_wp2_with (first | (at_make; refine Stop.un ?_) | (at_builtin; refine Stop.un ?_) | (with_reducible refine Stop.conv 22 9 ?_) | (with_reducible refine Stop.conv 9 22 ?_))
          have RQ := zr.set3 (.int .u8 mk) (.int .i64 mn) (.string ms)
          have rq0 := RQ.cell 0 rfl
          have rq1 := RQ.cell 1 rfl
          have rq2 := RQ.cell 2 rfl
          have rql := RQ.lt
          exact bodyPost_ret (v := .tuple #[.agg #[.int .u8 mk, .int .i64 mn, .string ms], .int .i64 0]) (by simp [results, Try.results45, go_sem, rq0, rq1, rq2]) rfl ⟨by first | rfl | simp, below_set3 b1 _ _ _ (Nat.le_refl _)⟩
        · have q1 : (op == 1) = false := by simpa using o1
          have q2 : (op == 2) = false := by simpa using o2
          have q4 : (op == 4) = false := by simpa using o4
          have q5 : (op == 5) = false := by simpa using o5
          by_cases s0 : so = 0
          ·
            subst s0
            have e0 : Kn.told ⟨ro, 0, hi, lo, ⟨lk, ln, ls⟩, ⟨mk, mn, ms⟩⟩ op = (V.zero, 0) := by
              unfold Kn.told
              rw [if_neg o1, if_neg o2, if_neg o4, if_neg o5]; rfl
            rw [e0]
            clear e0
            simp only [V.val, numG, V.zero]
            have z2 := z.alloc (.cells #[.int .u8 0, .int .i64 0, .string ⟨#[]⟩] 38)
            have zr := At.new w #[.int .u8 0, .int .i64 0, .string ⟨#[]⟩] 38
            have b1 := (Below.refl w.heap.size w).alloc (Nat.le_refl _) (.cells #[.int .u8 0, .int .i64 0, .string ⟨#[]⟩] 38)
            clear z
            go_enter Try.func45, Try.ntmps45
            go_upto_region 1 with fail
            generalize w.alloc (.cells #[.int .u8 0, .int .i64 0, .string ⟨#[]⟩] 38) = wA at z2 zr b1 ⊢
            have hgr : w.heap.size ≤ w.heap.size := Nat.le_refl _
            skip
            have c1 := z2.cell 1 rfl
            have fq0 := zr.free 0
            have gq0 := zr.cell 0 rfl
            have fq1 := zr.free 1
            have gq1 := zr.cell 1 rfl
            have fq2 := zr.free 2
            have gq2 := zr.cell 2 rfl
            have lq := zr.lt
            go_wp2_with (first | (at_make; refine Stop.un ?_) | (at_builtin; refine Stop.un ?_) | (with_reducible refine Stop.conv 22 9 ?_) | (with_reducible refine Stop.conv 9 22 ?_))
            have RQ := zr.set3 (.int .u8 0) (.int .i64 0) (.string ⟨#[]⟩)
            have rq0 := RQ.cell 0 rfl
            have rq1 := RQ.cell 1 rfl
            have rq2 := RQ.cell 2 rfl
            have rql := RQ.lt
            exact bodyPost_ret (v := .tuple #[.agg #[.int .u8 0, .int .i64 0, .string ⟨#[]⟩], .int .i64 0]) (by simp [results, Try.results45, go_sem, rq0, rq1, rq2]) rfl ⟨by first | rfl | simp, below_set3 b1 _ _ _ (Nat.le_refl _)⟩
          · have hs : (so == 0) = false := by simpa using s0
            cases hB : narB hi lo with
            | true =>
              have e0 : Kn.told ⟨ro, so, hi, lo, ⟨lk, ln, ls⟩, ⟨mk, mn, ms⟩⟩ op = (numG (narN hi lo), 0) := by
                unfold Kn.told
                rw [if_neg o1, if_neg o2, if_neg o4, if_neg o5, if_neg s0, if_pos hB]
              rw [e0]
              clear e0
              simp only [V.val, numG, V.zero]
              have z2 := z.alloc (.cells #[.int .u8 0, .int .i64 0, .string ⟨#[]⟩] 38)
              have zr := At.new w #[.int .u8 0, .int .i64 0, .string ⟨#[]⟩] 38
              have b1 := (Below.refl w.heap.size w).alloc (Nat.le_refl _) (.cells #[.int .u8 0, .int .i64 0, .string ⟨#[]⟩] 38)
              clear z
              go_enter Try.func45, Try.ntmps45
              go_upto_region 1 with fail
              generalize w.alloc (.cells #[.int .u8 0, .int .i64 0, .string ⟨#[]⟩] 38) = wA at z2 zr b1 ⊢
              have hgr : w.heap.size ≤ w.heap.size := Nat.le_refl _
              skip
              have c1 := z2.cell 1 rfl
              have c2 := z2.cell 2 rfl
              have c3 := z2.cell 3 rfl
              go_wp2_with (first | (at_make; refine Stop.un ?_) | (at_builtin; refine Stop.un ?_) | (with_reducible refine Stop.conv 22 9 ?_) | (with_reducible refine Stop.conv 9 22 ?_))
              refine ((gnarrow_any hi lo _)).mono ?_
              rintro e wo ⟨rfl, bo⟩
              replace zr := zr.mono bo
              replace z2 := z2.mono bo
              replace b1 := b1.next bo
              clear bo
              have fq0 := zr.free 0
              have gq0 := zr.cell 0 rfl
              have fq1 := zr.free 1
              have gq1 := zr.cell 1 rfl
              have fq2 := zr.free 2
              have gq2 := zr.cell 2 rfl
              have lq := zr.lt
              go_wp2_with (first | (at_make; refine Stop.un ?_) | (at_builtin; refine Stop.un ?_) | (with_reducible refine Stop.conv 22 9 ?_) | (with_reducible refine Stop.conv 9 22 ?_))
              refine (gnumber_any _ _).mono ?_
              rintro e wo ⟨rfl, bo⟩
              replace zr := zr.mono bo
              replace z2 := z2.mono bo
              replace b1 := b1.next bo
              clear bo
              have fq0 := zr.free 0
              have gq0 := zr.cell 0 rfl
              have fq1 := zr.free 1
              have gq1 := zr.cell 1 rfl
              have fq2 := zr.free 2
              have gq2 := zr.cell 2 rfl
              have lq := zr.lt
              go_wp2_with (first | (at_make; refine Stop.un ?_) | (at_builtin; refine Stop.un ?_) | (with_reducible refine Stop.conv 22 9 ?_) | (with_reducible refine Stop.conv 9 22 ?_))
              have RQ := zr.set3 (.int .u8 2) (.int .i64 (narN hi lo)) (.string ⟨#[]⟩)
              have rq0 := RQ.cell 0 rfl
              have rq1 := RQ.cell 1 rfl
              have rq2 := RQ.cell 2 rfl
              have rql := RQ.lt
              exact bodyPost_ret (v := .tuple #[.agg #[.int .u8 2, .int .i64 (narN hi lo), .string ⟨#[]⟩], .int .i64 0]) (by simp [results, Try.results45, go_sem, rq0, rq1, rq2]) rfl ⟨by first | rfl | simp, below_set3 b1 _ _ _ (Nat.le_refl _)⟩
            | false =>
              have e0 : Kn.told ⟨ro, so, hi, lo, ⟨lk, ln, ls⟩, ⟨mk, mn, ms⟩⟩ op = (V.zero, 220) := by
                unfold Kn.told
                rw [if_neg o1, if_neg o2, if_neg o4, if_neg o5, if_neg s0, if_neg (by rw [hB]; decide)]
              rw [e0]
              clear e0
              simp only [V.val, numG, V.zero]
              have z2 := z.alloc (.cells #[.int .u8 0, .int .i64 0, .string ⟨#[]⟩] 38)
              have zr := At.new w #[.int .u8 0, .int .i64 0, .string ⟨#[]⟩] 38
              have b1 := (Below.refl w.heap.size w).alloc (Nat.le_refl _) (.cells #[.int .u8 0, .int .i64 0, .string ⟨#[]⟩] 38)
              clear z
              go_enter Try.func45, Try.ntmps45
              go_upto_region 1 with fail
              generalize w.alloc (.cells #[.int .u8 0, .int .i64 0, .string ⟨#[]⟩] 38) = wA at z2 zr b1 ⊢
              have hgr : w.heap.size ≤ w.heap.size := Nat.le_refl _
              skip
              have c1 := z2.cell 1 rfl
              have c2 := z2.cell 2 rfl
              have c3 := z2.cell 3 rfl
              go_wp2_with (first | (at_make; refine Stop.un ?_) | (at_builtin; refine Stop.un ?_) | (with_reducible refine Stop.conv 22 9 ?_) | (with_reducible refine Stop.conv 9 22 ?_))
              refine ((gnarrow_any hi lo _)).mono ?_
              rintro e wo ⟨rfl, bo⟩
              replace zr := zr.mono bo
              replace z2 := z2.mono bo
              replace b1 := b1.next bo
              clear bo
              have fq0 := zr.free 0
              have gq0 := zr.cell 0 rfl
              have fq1 := zr.free 1
              have gq1 := zr.cell 1 rfl
              have fq2 := zr.free 2
              have gq2 := zr.cell 2 rfl
              have lq := zr.lt
              go_wp2_with (first | (at_make; refine Stop.un ?_) | (at_builtin; refine Stop.un ?_) | (with_reducible refine Stop.conv 22 9 ?_) | (with_reducible refine Stop.conv 9 22 ?_))
              have RQ := zr.set3 (.int .u8 0) (.int .i64 0) (.string ⟨#[]⟩)
              have rq0 := RQ.cell 0 rfl
              have rq1 := RQ.cell 1 rfl
              have rq2 := RQ.cell 2 rfl
              have rql := RQ.lt
              exact bodyPost_ret (v := .tuple #[.agg #[.int .u8 0, .int .i64 0, .string ⟨#[]⟩], .int .i64 220]) (by simp [results, Try.results45, go_sem, rq0, rq1, rq2]) rfl ⟨by first | rfl | simp, below_set3 b1 _ _ _ (Nat.le_refl _)⟩
end Go.Proofs.Ytbiniecjenencaa
