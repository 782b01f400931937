/- Numbers as runs: what the reference returns. -/
import Derived.Test.YtkgcjafediimnaaROf
import Derived.Laws.OwnMore
import Derived.Deep.AppendLies
set_option linter.unusedVariables false
set_option linter.unusedSimpArgs false
namespace Go.Proofs.Ytkgcjafediimnaa
open Go.RowKit
def JoinR (l : List Int) (j : Nat) (out : List Rn) : Prop := (j = 0 ∧ out = []) ∨ ∃ (init : List Rn) (y c : Int), out = init ++ [⟨y, c⟩] ∧ l[j - 1]? = some y ∧ 0 < j ∧ 1 ≤ c ∧ c ≤ (j : Int) ∧ init ++ preR y c (ofR (l.drop j)) = ofR l
theorem JoinR.done {l : List Int} {out : List Rn} (h : JoinR l l.length out) : out = ofR l := by
  rcases h with ⟨h1, rfl⟩ | ⟨init, y, c, rfl, _, _, _, _, h⟩
  · rw [List.eq_nil_of_length_eq_zero h1]; rfl
  · rw [← h, List.drop_length]; rfl
theorem JoinR.first {l : List Int} {x : Int} {j : Nat} {out : List Rn} (h : JoinR l j out) (hx : l[j]? = some x) (hj : j = 0 ∨ ∃ y, l[j - 1]? = some y ∧ x ≠ y) : JoinR l (j + 1) (out ++ [⟨x, 1⟩]) := by
  obtain ⟨hjl, hxe⟩ := List.getElem?_eq_some_iff.1 hx
  have hd : l.drop j = x :: l.drop (j + 1) := by rw [List.drop_eq_getElem_cons hjl, hxe]
  refine .inr ⟨out, x, 1, rfl, by simpa using hx, by omega, by omega, by omega, ?_⟩
  rcases h with ⟨h1, rfl⟩ | ⟨init, y, c, rfl, hy, _, _, _, h⟩
  · subst h1; rw [List.nil_append, show l = x :: l.drop 1 by simpa using hd, ofR]; simp
  · rcases hj with rfl | ⟨y', hy', hne⟩
    · omega
    · rw [hy] at hy'; cases hy'
      rw [← h, hd, ofR, preR_ne _ _ _ _ _ hne]; simp
theorem JoinR.more {l : List Int} {x c : Int} {j : Nat} {init : List Rn} (h : JoinR l j (init ++ [⟨x, c⟩])) (hx : l[j]? = some x) (hj : 0 < j) : JoinR l (j + 1) (init ++ [⟨x, c + 1⟩]) := by
  obtain ⟨hjl, hxe⟩ := List.getElem?_eq_some_iff.1 hx
  have hd : l.drop j = x :: l.drop (j + 1) := by rw [List.drop_eq_getElem_cons hjl, hxe]
  rcases h with ⟨h1, _⟩ | ⟨init', y, c', h0, hy, _, h2, h3, h⟩
  · omega
  · have e := List.append_inj' h0 rfl
    obtain ⟨rfl, e2⟩ := e
    simp at e2
    obtain ⟨e3, e4⟩ := e2
    subst e3 e4
    refine .inr ⟨init, _, _, rfl, by simpa using hx, by omega, by omega, by omega, ?_⟩
    rw [← h, hd, ofR, preR_pre]
theorem Own.stored {w0 w : World} {e size n g cap : Nat} {xs : List Value} (h : Own w0 w e size (.slice (some ⟨g, 0, none⟩) n cap) n xs) (j : Nat) (u : Value) : Own w0 (w.setCell ⟨g, j, none⟩ u) e size (.slice (some ⟨g, 0, none⟩) n cap) n (xs.set j u) :=
  ⟨(h.1.stored j u).1, h.2.setCell (p := ⟨g, j, none⟩) (h.ge g rfl) _⟩
theorem Own.at {w0 w : World} {e size n cap : Nat} {ao : Option Addr} {xs : List Value} (h : Own w0 w e size (.slice ao n cap) n xs) (hn : 0 < n) : ∃ g, ao = some ⟨g, 0, none⟩ ∧ w0.heap.size ≤ g ∧ g < w.heap.size := by
  obtain ⟨g, cap', hv, _, _⟩ := h.1.form hn
  simp only [Value.slice.injEq] at hv
  obtain ⟨e1, -, -⟩ := hv
  subst e1
  exact ⟨g, rfl, h.ge _ rfl, h.lt _ rfl⟩
set_option maxHeartbeats 2000000 in
theorem rof_any (ao : Option Addr) (m cap : Nat) (l : List Int) (w : World) (hc : Cs w ao (icells l)) (hm : l.length = m) (hl : m ≤ cap) (hcm : cap ≤ maxLen) (hmb : m ≤ 5000) :
    Calls Try.prog 14 #[.slice ao m cap] w (RetR w (ofR l)) := by
  unfold maxLen at hcm
  have HM := Lib.hid hm
  clear hm
  go_enter Try.func14, Try.ntmps14
  go_wp2_with (first | (at_make; refine Stop.un ?_) | (at_builtin; refine Stop.un ?_) | (with_reducible refine Stop.conv 24 9 ?_) | (with_reducible refine Stop.conv 9 24 ?_))
  go_loopw [3, 4] (fun v i wr => ∃ (j k : Nat) (ab : Option Addr) (cb : Nat) (out : List Rn), j ≤ m ∧ k ≤ j ∧ i = .int .i64 (j : Int) ∧ v = .slice ab k cb ∧ OwnR w wr (.slice ab k cb) k out ∧ Hid (JoinR l j out)) (fun _ i _ => m - (intOf i).toNat)
  case atStart => exact ⟨0, 0, none, 0, [], by omega, by omega, rfl, rfl, Own.nil _ _ (Below.refl _ _), Lib.hid (.inl ⟨rfl, rfl⟩)⟩
  case round =>
    obtain ⟨j, k, ab, cb, out, hj, hk, rfl, rfl, hO, HI⟩ := hrel
    by_cases hlt : j < m
    · have hjl : j < l.length := by have := HM.out; omega
      obtain ⟨b, o, rfl⟩ := hc.addr (by rw [icells_length]; omega)
      have hc1 := (hc.mono (Own.below hO) (Nat.le_refl _)).iat hjl
      have hx : l[j]? = some l[j] := List.getElem?_eq_getElem hjl
      generalize l[j] = x at hc1 hx
      have HX := Lib.hid hx
      clear hx
      by_cases hj0 : j = 0
      · have HI2 := Lib.hid (HI.out.first HX.out (.inl hj0))
        subst hj0
        rw [Nat.add_zero] at hc1
        clear HI hjl
        go_wp2_with (first | (at_make; refine Stop.un ?_) | (at_builtin; refine Stop.un ?_) | (with_reducible refine Stop.conv 24 9 ?_) | (with_reducible refine Stop.conv 9 24 ?_))
        refine mix_startE 14 rfl (by kernel_rfl) ?_
        intro xq hxq
        replace hO := Own.keep hO hxq
        replace hc1 := Ext.cell hxq hc1
        clear hxq
        refine mix_quiet Keeps.ext 0 rfl (by kernel_rfl) rfl ?_
        intro ι U hne hU
        go_big_quiet_op
        clear hU hne U ι
        show wpAnyM _ _ _ _ _ _ _ _ _
        refine mix_quiet Keeps.ext 1 rfl (by kernel_rfl) rfl ?_
        intro ι U hne hU
        go_big_quiet_op
        clear hU hne U ι
        show wpAnyM _ _ _ _ _ _ _ _ _
        refine mix_quiet Keeps.ext 2 rfl (by kernel_rfl) rfl ?_
        intro ι U hne hU
        go_big_quiet_op
        clear hU hne U ι
        show wpAnyM _ _ _ _ _ _ _ _ _
        refine mix_skip Keeps.ext 3 rfl (by kernel_rfl) rfl ?_
        go_big_quiet_skip
        refine wpQuiet_nil ?_
        show wpAnyM _ _ _ _ _ _ _ _ _
        refine mix_skip Keeps.ext 4 rfl (by kernel_rfl) rfl ?_
        go_big_quiet_skip
        refine wpQuiet_nil ?_
        show wpAnyM _ _ _ _ _ _ _ _ _
        refine mix_skip Keeps.ext 5 rfl (by kernel_rfl) rfl ?_
        go_big_quiet_skip
        refine wpQuiet_nil ?_
        show wpAnyM _ _ _ _ _ _ _ _ _
        refine mix_skip Keeps.ext 6 rfl (by kernel_rfl) rfl ?_
        go_big_quiet_skip
        refine wpQuiet_nil ?_
        show wpAnyM _ _ _ _ _ _ _ _ _
        refine mix_skip Keeps.ext 7 rfl (by kernel_rfl) rfl ?_
        go_big_quiet_skip
        refine wpQuiet_nil ?_
        show wpAnyM _ _ _ _ _ _ _ _ _
        refine mix_skip Keeps.ext 8 rfl (by kernel_rfl) rfl ?_
        go_big_quiet_skip
        refine wpQuiet_nil ?_
        show wpAnyM _ _ _ _ _ _ _ _ _
        refine mix_skip Keeps.ext 9 rfl (by kernel_rfl) rfl ?_
        go_big_quiet_skip
        refine wpQuiet_nil ?_
        show wpAnyM _ _ _ _ _ _ _ _ _
        refine mix_skip Keeps.ext 10 rfl (by kernel_rfl) rfl ?_
        go_big_quiet_skip
        refine wpQuiet_nil ?_
        show wpAnyM _ _ _ _ _ _ _ _ _
        refine mix_skip Keeps.ext 11 rfl (by kernel_rfl) rfl ?_
        go_big_quiet_skip
        refine wpQuiet_nil ?_
        show wpAnyM _ _ _ _ _ _ _ _ _
        refine mix_skip Keeps.ext 12 rfl (by kernel_rfl) rfl ?_
        go_big_quiet_skip
        refine wpQuiet_nil ?_
        show wpAnyM _ _ _ _ _ _ _ _ _
        refine mix_quiet Keeps.ext 13 rfl (by kernel_rfl) rfl ?_
        intro ι U hne hU
        go_big_quiet_op
        clear hU hne U ι
        show wpAnyM _ _ _ _ _ _ _ _ _
        refine mix_end (by kernel_rfl) ?_
        go_wp2_with (first | (at_make; refine Stop.un ?_) | (at_builtin; refine Stop.un ?_) | (with_reducible refine Stop.conv 24 9 ?_) | (with_reducible refine Stop.conv 9 24 ?_))
        refine Stop.mk (app_r1 w _ _ rfl rfl hO rfl rfl (by omega) ?_)
        intro a3 c3 w3 hO3 _ _
        clear hO
        go_wp2_with (first | (at_make; refine Stop.un ?_) | (at_builtin; refine Stop.un ?_) | (with_reducible refine Stop.conv 24 9 ?_) | (with_reducible refine Stop.conv 9 24 ?_))
        go_roundw
        case rel => exact ⟨0 + 1, k + 1, a3, c3, _, by omega, by omega, by go_num, rfl, hO3, HI2⟩
        case measure => simp [intOf]; omega
      · have hjm : j - 1 < l.length := by omega
        have hb0 : decide (0 < j) = true := by simp; omega
        have hc2 := (hc.mono (Own.below hO) (Nat.le_refl _)).iat hjm
        have hy : l[j - 1]? = some l[j - 1] := List.getElem?_eq_getElem hjm
        generalize l[j - 1] = y at hc2 hy
        have HY := Lib.hid hy
        clear hy hjl hjm
        by_cases hxy : x = y
        · subst hxy
          obtain ⟨init, c, rfl, hc0, hc9, hi⟩ : ∃ (init : List Rn) (c : Int), out = init ++ [⟨x, c⟩] ∧ 1 ≤ c ∧ c ≤ (j : Int) ∧ JoinR l (j + 1) (init ++ [⟨x, c + 1⟩]) := by
            rcases id HI.out with ⟨h1, _⟩ | ⟨init, y, c, rfl, hy, _, h2, h3, _⟩
            · omega
            · rw [HY.out] at hy; cases hy; exact ⟨init, c, rfl, h2, h3, HI.out.more HX.out (by omega)⟩
          have HI2 := Lib.hid hi
          have hb2 : (x == x) = true := by simp
          have hln := OwnR.length hO
          obtain ⟨q, rfl⟩ : ∃ q, k = q + 1 := ⟨k - 1, by simp at hln; omega⟩
          have hq : init.length = q := by simpa using hln
          have HQ := Lib.hid hq
          obtain ⟨g, rfl, hg0, hg1⟩ := Own.at hO (by omega)
          clear HI hi hln hq
          go_wp2_with (first | (at_make; refine Stop.un ?_) | (at_builtin; refine Stop.un ?_) | (with_reducible refine Stop.conv 24 9 ?_) | (with_reducible refine Stop.conv 9 24 ?_))
          refine mix_startE 14 rfl (by kernel_rfl) ?_
          intro xq hxq
          replace hO := Own.keep hO hxq
          replace hc1 := Ext.cell hxq hc1
          replace hc2 := Ext.cell hxq hc2
          clear hxq
          refine mix_quiet Keeps.ext 0 rfl (by kernel_rfl) rfl ?_
          intro ι U hne hU
          go_big_quiet_op
          clear hU hne U ι
          show wpAnyM _ _ _ _ _ _ _ _ _
          refine mix_quiet Keeps.ext 1 rfl (by kernel_rfl) rfl ?_
          intro ι U hne hU
          go_big_quiet_op
          clear hU hne U ι
          show wpAnyM _ _ _ _ _ _ _ _ _
          refine mix_quiet Keeps.ext 2 rfl (by kernel_rfl) rfl ?_
          intro ι U hne hU
          go_big_quiet_op
          clear hU hne U ι
          show wpAnyM _ _ _ _ _ _ _ _ _
          refine mix_quiet Keeps.ext 3 rfl (by kernel_rfl) rfl ?_
          intro ι U hne hU
          go_big_quiet_op
          clear hU hne U ι
          show wpAnyM _ _ _ _ _ _ _ _ _
          refine mix_quiet Keeps.ext 4 rfl (by kernel_rfl) rfl ?_
          intro ι U hne hU
          go_big_quiet_op
          clear hU hne U ι
          show wpAnyM _ _ _ _ _ _ _ _ _
          refine mix_quiet Keeps.ext 5 rfl (by kernel_rfl) rfl ?_
          intro ι U hne hU
          go_big_quiet_op
          clear hU hne U ι
          show wpAnyM _ _ _ _ _ _ _ _ _
          refine mix_quiet Keeps.ext 6 rfl (by kernel_rfl) rfl ?_
          intro ι U hne hU
          have hcw0 := fun ii => (hU ii).cell hc1
          have hcw1 := fun ii => (hU ii).cell hc2
          go_big_quiet_op
          clear hU hne hcw0 hcw1 U ι
          show wpAnyM _ _ _ _ _ _ _ _ _
          refine mix_quiet Keeps.ext 7 rfl (by kernel_rfl) rfl ?_
          intro ι U hne hU
          go_big_quiet_op
          clear hU hne U ι
          show wpAnyM _ _ _ _ _ _ _ _ _
          refine mix_quiet Keeps.ext 8 rfl (by kernel_rfl) rfl ?_
          intro ι U hne hU
          go_big_quiet_op
          clear hU hne U ι
          show wpAnyM _ _ _ _ _ _ _ _ _
          refine mix_quiet Keeps.ext 9 rfl (by kernel_rfl) rfl ?_
          intro ι U hne hU
          go_big_quiet_op
          clear hU hne U ι
          show wpAnyM _ _ _ _ _ _ _ _ _
          refine mix_quiet Keeps.ext 10 rfl (by kernel_rfl) rfl ?_
          intro ι U hne hU
          go_big_quiet_op
          clear hU hne U ι
          show wpAnyM _ _ _ _ _ _ _ _ _
          refine mix_quiet Keeps.ext 11 rfl (by kernel_rfl) rfl ?_
          intro ι U hne hU
          have hcw0 := fun ii => (hU ii).cell hc1
          have hcw1 := fun ii => (hU ii).cell hc2
          go_big_quiet_op
          clear hU hne hcw0 hcw1 U ι
          show wpAnyM _ _ _ _ _ _ _ _ _
          refine mix_quiet Keeps.ext 12 rfl (by kernel_rfl) rfl ?_
          intro ι U hne hU
          go_big_quiet_op
          clear hU hne U ι
          show wpAnyM _ _ _ _ _ _ _ _ _
          refine mix_quiet Keeps.ext 13 rfl (by kernel_rfl) rfl ?_
          intro ι U hne hU
          go_big_quiet_op
          clear hU hne U ι
          show wpAnyM _ _ _ _ _ _ _ _ _
          refine mix_end (by kernel_rfl) ?_
          have hc3 := hO.1.cellAt (q * 2 + 1) (by omega)
          rw [rcells_append, List.getElem?_append_right (by rw [rcells_length, HQ.out]; omega), rcells_length, HQ.out, show q * 2 + 1 - q * 2 = 1 by omega] at hc3
          have hc3' : xq.cell? ⟨g, q * 2 + 1, none⟩ = some (.int .i64 c) := hc3
          have hfr := hO.1.frozenAt (q * 2 + 1)
          clear hc3
          go_wp2_with (first | (at_make; refine Stop.un ?_) | (at_builtin; refine Stop.un ?_) | (with_reducible refine Stop.conv 24 9 ?_) | (with_reducible refine Stop.conv 9 24 ?_))
          have hO3 : OwnR w (xq.setCell ⟨g, q * 2 + 1, none⟩ (.int .i64 (c + 1))) (.slice (some ⟨g, 0, none⟩) (q + 1) cb) (q + 1) (init ++ [⟨x, c + 1⟩]) := by
            have h := hO.stored (q * 2 + 1) (.int .i64 (c + 1))
            rw [rcells_append, List.set_append_right _ _ (by rw [rcells_length, HQ.out]; omega), rcells_length, HQ.out, show q * 2 + 1 - q * 2 = 1 by omega] at h
            rw [OwnR, rcells_append]
            exact h
          go_roundw
          case rel => exact ⟨j + 1, q + 1, _, _, _, by omega, by omega, by go_num, rfl, hO3, HI2⟩
          case measure => simp [intOf]; omega
        · have HI2 := Lib.hid (HI.out.first HX.out (.inr ⟨y, HY.out, hxy⟩))
          have hb2 : (x == y) = false := by simpa using hxy
          clear HI hxy
          go_wp2_with (first | (at_make; refine Stop.un ?_) | (at_builtin; refine Stop.un ?_) | (with_reducible refine Stop.conv 24 9 ?_) | (with_reducible refine Stop.conv 9 24 ?_))
          refine mix_startE 14 rfl (by kernel_rfl) ?_
          intro xq hxq
          replace hO := Own.keep hO hxq
          replace hc1 := Ext.cell hxq hc1
          replace hc2 := Ext.cell hxq hc2
          clear hxq
          refine mix_quiet Keeps.ext 0 rfl (by kernel_rfl) rfl ?_
          intro ι U hne hU
          go_big_quiet_op
          clear hU hne U ι
          show wpAnyM _ _ _ _ _ _ _ _ _
          refine mix_quiet Keeps.ext 1 rfl (by kernel_rfl) rfl ?_
          intro ι U hne hU
          go_big_quiet_op
          clear hU hne U ι
          show wpAnyM _ _ _ _ _ _ _ _ _
          refine mix_quiet Keeps.ext 2 rfl (by kernel_rfl) rfl ?_
          intro ι U hne hU
          go_big_quiet_op
          clear hU hne U ι
          show wpAnyM _ _ _ _ _ _ _ _ _
          refine mix_quiet Keeps.ext 3 rfl (by kernel_rfl) rfl ?_
          intro ι U hne hU
          go_big_quiet_op
          clear hU hne U ι
          show wpAnyM _ _ _ _ _ _ _ _ _
          refine mix_quiet Keeps.ext 4 rfl (by kernel_rfl) rfl ?_
          intro ι U hne hU
          go_big_quiet_op
          clear hU hne U ι
          show wpAnyM _ _ _ _ _ _ _ _ _
          refine mix_quiet Keeps.ext 5 rfl (by kernel_rfl) rfl ?_
          intro ι U hne hU
          go_big_quiet_op
          clear hU hne U ι
          show wpAnyM _ _ _ _ _ _ _ _ _
          refine mix_quiet Keeps.ext 6 rfl (by kernel_rfl) rfl ?_
          intro ι U hne hU
          have hcw0 := fun ii => (hU ii).cell hc1
          have hcw1 := fun ii => (hU ii).cell hc2
          go_big_quiet_op
          clear hU hne hcw0 hcw1 U ι
          show wpAnyM _ _ _ _ _ _ _ _ _
          refine mix_quiet Keeps.ext 7 rfl (by kernel_rfl) rfl ?_
          intro ι U hne hU
          go_big_quiet_op
          clear hU hne U ι
          show wpAnyM _ _ _ _ _ _ _ _ _
          refine mix_quiet Keeps.ext 8 rfl (by kernel_rfl) rfl ?_
          intro ι U hne hU
          go_big_quiet_op
          clear hU hne U ι
          show wpAnyM _ _ _ _ _ _ _ _ _
          refine mix_quiet Keeps.ext 9 rfl (by kernel_rfl) rfl ?_
          intro ι U hne hU
          go_big_quiet_op
          clear hU hne U ι
          show wpAnyM _ _ _ _ _ _ _ _ _
          refine mix_quiet Keeps.ext 10 rfl (by kernel_rfl) rfl ?_
          intro ι U hne hU
          go_big_quiet_op
          clear hU hne U ι
          show wpAnyM _ _ _ _ _ _ _ _ _
          refine mix_quiet Keeps.ext 11 rfl (by kernel_rfl) rfl ?_
          intro ι U hne hU
          have hcw0 := fun ii => (hU ii).cell hc1
          have hcw1 := fun ii => (hU ii).cell hc2
          go_big_quiet_op
          clear hU hne hcw0 hcw1 U ι
          show wpAnyM _ _ _ _ _ _ _ _ _
          refine mix_quiet Keeps.ext 12 rfl (by kernel_rfl) rfl ?_
          intro ι U hne hU
          go_big_quiet_op
          clear hU hne U ι
          show wpAnyM _ _ _ _ _ _ _ _ _
          refine mix_quiet Keeps.ext 13 rfl (by kernel_rfl) rfl ?_
          intro ι U hne hU
          go_big_quiet_op
          clear hU hne U ι
          show wpAnyM _ _ _ _ _ _ _ _ _
          refine mix_end (by kernel_rfl) ?_
          go_wp2_with (first | (at_make; refine Stop.un ?_) | (at_builtin; refine Stop.un ?_) | (with_reducible refine Stop.conv 24 9 ?_) | (with_reducible refine Stop.conv 9 24 ?_))
          refine Stop.mk (app_r1 w _ _ rfl rfl hO rfl rfl (by omega) ?_)
          intro a3 c3 w3 hO3 _ _
          clear hO
          go_wp2_with (first | (at_make; refine Stop.un ?_) | (at_builtin; refine Stop.un ?_) | (with_reducible refine Stop.conv 24 9 ?_) | (with_reducible refine Stop.conv 9 24 ?_))
          go_roundw
          case rel => exact ⟨j + 1, k + 1, a3, c3, _, by omega, by omega, by go_num, rfl, hO3, HI2⟩
          case measure => simp [intOf]; omega
    · have hjm : j = m := by omega
      have hi := HI.out
      subst hjm
      rw [← HM.out] at hi
      have e := hi.done
      have HI2 := Lib.hid e
      clear hi HI e
      go_wp2_with (first | (at_make; refine Stop.un ?_) | (at_builtin; refine Stop.un ?_) | (with_reducible refine Stop.conv 24 9 ?_) | (with_reducible refine Stop.conv 9 24 ?_))
      go_ret
      rw [← HI2.out]
      exact ⟨_, _, _, OwnR.length hO, rfl, hO⟩
end Go.Proofs.Ytkgcjafediimnaa
