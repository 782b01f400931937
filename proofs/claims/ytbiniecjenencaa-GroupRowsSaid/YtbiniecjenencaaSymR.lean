/- The library's symmetric merge, of rows: many ahead of one row. -/
import Derived.Test.YtbiniecjenencaaSymL
set_option linter.unusedVariables false
set_option linter.unusedSimpArgs false
set_option maxRecDepth 10000
namespace Go.Proofs.Ytbiniecjenencaa
open Go.RowKit
def lowM (ks : List Ky) (L : List Rw) (y : Rw) (o i : Nat) : Prop := i - o = 0 ∨ ∃ x, L[i - o - 1]? = some x ∧ ¬ rcmp ks y x < 0
def highM (ks : List Ky) (L : List Rw) (y : Rw) (o j : Nat) : Prop := L.length ≤ j - o ∨ ∃ x, L[j - o]? = some x ∧ rcmp ks y x < 0
set_option maxRecDepth 100000 in
set_option maxHeartbeats 8000000 in
theorem sym_right (g0 B h : Nat) (ak : Option Addr) (p ck : Nat) (ks : List Ky) (n cap : Nat) (hnc : n ≤ cap) (hcap : cap ≤ 140737488355328) (pre L : List Rw) (y : Rw) (post : List Rw) (w : World) (hs : Srt g0 B h ak p ck ks w (pre ++ (L ++ y :: post))) (hn : (pre ++ (L ++ y :: post)).length = n) (hA : Asc (rcmp ks) L) (hL : 1 < L.length) (a m b : Nat) (ha : pre.length = a) (hm : a + L.length = m) (hb : m + 1 = b) :
    Calls Try.prog 58 #[.slice (some ⟨g0, 0, none⟩) n cap, .int .i64 (a : Int), .int .i64 (m : Int), .int .i64 (b : Int), cmpF h] w (fun e w' => e = .returned (.tuple #[]) ∧ Srt g0 B h ak p ck ks w' (pre ++ mergeS (rcmp ks) L [y] ++ post) ∧ RX B (some g0) w w') := by
  have hab : a + 2 ≤ m ∧ m < b ∧ b ≤ m + 1 ∧ b ≤ n := by
    simp only [List.length_append, List.length_cons] at hn
    omega
  have HA := Lib.hid hA
  have HL : Hid (pre.length = a ∧ a + L.length = m) := Lib.hid ⟨ha, by omega⟩
  have hH := s0_hB hs
  have hd0 : (((m : Int) - (a : Int)) == 1) = false := by simp; omega
  have hd1 : (((b : Int) - (m : Int)) == 1) = true := by simp; omega
  clear hn hA hL ha hb hm
  unfold cmpF
  go_enter Try.func58, Try.ntmps58
  go_wp2_with (first | (at_make; refine Stop.un ?_) | (at_builtin; refine Stop.un ?_) | (with_reducible refine Stop.conv 22 9 ?_) | (with_reducible refine Stop.conv 9 22 ?_))
  go_loopw [14, 15] (fun u v wr => BinR a m (lowM ks L y a) (highM ks L y a) u v ∧ Srt g0 B h ak p ck ks wr (pre ++ (L ++ y :: post)) ∧ RX B (some g0) w wr) (fun u v _ => (intOf v).toNat - (intOf u).toNat)
  case atStart => exact ⟨⟨a, m, Nat.le_refl _, by omega, Nat.le_refl _, rfl, rfl, .inl (by omega), .inl (by have := HL.out; omega)⟩, hs, RX.refl _⟩
  case round =>
    clear hs
    obtain ⟨⟨i, j, hi, hij, hj, rfl, rfl, hI, hJ⟩, hs, hx⟩ := hrel
    have HI := Lib.hid hI
    have HJ := Lib.hid hJ
    clear hI hJ
    by_cases hlt : i < j
    · obtain ⟨t, htd⟩ : ∃ t, (i + j) / 2 = t := ⟨_, rfl⟩
      have htr : i ≤ t ∧ t < j := by omega
      have HT : Hid (((i : Int) + (j : Int)) / 2 = (t : Int)) := Lib.hid (by omega)
      clear htd
      obtain ⟨x, hy⟩ : ∃ x, L[t - a]? = some x := ⟨_, List.getElem?_eq_getElem (by have := HL.out; omega)⟩
      have HY := Lib.hid hy
      have q1 : (pre ++ (L ++ y :: post))[t]? = some x := by
        have := HL.out
        rw [List.getElem?_append_right (by omega), show t - pre.length = t - a by omega, List.getElem?_append_left (by omega)]
        exact hy
      have q2 : (pre ++ (L ++ y :: post))[m]? = some y := by
        have := HL.out
        rw [List.getElem?_append_right (by omega), List.getElem?_append_right (by omega), show m - pre.length - L.length = 0 by omega]
        rfl
      have x1 := hs.getq q1
      have x2 := hs.getq q2
      have HF := Lib.hid (fun (W : World) (s : Srt g0 B h ak p ck ks W (pre ++ (L ++ y :: post))) => sortf_any _ rfl s y x (List.mem_of_getElem? q2) (List.mem_of_getElem? q1))
      have hcc : cmpR y.l x.l ks = rcmp ks y x := rfl
      rw [hcc] at HF
      have hbw : Below wr.heap.size wr wr := Below.refl _ _
      have hsz : B ≤ wr.heap.size := hs.size
      have htn : t < n := by omega
      clear hcc q1 q2 hy
      go_upto_region 17 with fail
      rw [HT.out]
      refine mix_startE 12 rfl (by kernel_rfl) ?_
      intro xq hxq
      replace hs := Srt.below hs hxq
      replace x1 := Ext.cell hxq x1
      replace x2 := Ext.cell hxq x2
      replace hbw := Below.next hbw hxq
      clear hxq
      refine mix_quiet Keeps.ext 0 rfl (by kernel_rfl) rfl ?_
      intro ι U hne hU
      go_big_quiet_op
      clear hU hne U ι
      show wpAnyM _ _ _ _ _ _ _ _ _
      refine mix_quiet Keeps.ext 1 rfl (by kernel_rfl) rfl ?_
      intro ι U hne hU
      go_big_quiet_op
      clear hU hne U ι
      show wpAnyM _ _ _ _ _ _ _ _ _
      refine mix_quiet Keeps.ext 2 rfl (by kernel_rfl) rfl ?_
      intro ι U hne hU
      go_big_quiet_op
      clear hU hne U ι
      show wpAnyM _ _ _ _ _ _ _ _ _
      refine mix_quiet Keeps.ext 3 rfl (by kernel_rfl) rfl ?_
      intro ι U hne hU
      go_big_quiet_op
      clear hU hne U ι
      show wpAnyM _ _ _ _ _ _ _ _ _
      refine mix_quiet Keeps.ext 4 rfl (by kernel_rfl) rfl ?_
      intro ι U hne hU
      have hcw0 := fun ii => (hU ii).cell x1
      have hcw1 := fun ii => (hU ii).cell x2
      go_big_quiet_op
      clear hU hne hcw0 hcw1 U ι
      show wpAnyM _ _ _ _ _ _ _ _ _
      refine mix_quiet Keeps.ext 5 rfl (by kernel_rfl) rfl ?_
      intro ι U hne hU
      go_big_quiet_op
      clear hU hne U ι
      show wpAnyM _ _ _ _ _ _ _ _ _
      refine mix_quiet Keeps.ext 6 rfl (by kernel_rfl) rfl ?_
      intro ι U hne hU
      go_big_quiet_op
      clear hU hne U ι
      show wpAnyM _ _ _ _ _ _ _ _ _
      refine mix_quiet Keeps.ext 7 rfl (by kernel_rfl) rfl ?_
      intro ι U hne hU
      go_big_quiet_op
      clear hU hne U ι
      show wpAnyM _ _ _ _ _ _ _ _ _
      refine mix_quiet Keeps.ext 8 rfl (by kernel_rfl) rfl ?_
      intro ι U hne hU
      have hcw0 := fun ii => (hU ii).cell x1
      have hcw1 := fun ii => (hU ii).cell x2
      go_big_quiet_op
      clear hU hne hcw0 hcw1 U ι
      show wpAnyM _ _ _ _ _ _ _ _ _
      refine mix_any 9 rfl (by kernel_rfl) rfl ?_
      go_wp2_with (first | (at_make; refine Stop.un ?_) | (at_builtin; refine Stop.un ?_) | (with_reducible refine Stop.conv 22 9 ?_) | (with_reducible refine Stop.conv 9 22 ?_))
      refine (HF.out _ hs).mono ?_
      rintro e wq1 ⟨rfl, bq1⟩
      go_wp2_with (first | (at_make; refine Stop.un ?_) | (at_builtin; refine Stop.un ?_) | (with_reducible refine Stop.conv 22 9 ?_) | (with_reducible refine Stop.conv 9 22 ?_))
      refine MixPost.mk bq1 ?_
      replace hs := Srt.below hs bq1
      replace x1 := Ext.cell bq1 x1
      replace x2 := Ext.cell bq1 x2
      replace hbw := Below.next hbw bq1
      clear bq1
      refine mix_quiet Keeps.ext 10 rfl (by kernel_rfl) rfl ?_
      intro ι U hne hU
      go_big_quiet_op
      clear hU hne U ι
      show wpAnyM _ _ _ _ _ _ _ _ _
      refine mix_quiet Keeps.ext 11 rfl (by kernel_rfl) rfl ?_
      intro ι U hne hU
      go_big_quiet_op
      clear hU hne U ι
      show wpAnyM _ _ _ _ _ _ _ _ _
      refine mix_end (by kernel_rfl) ?_
      replace hx := hx.trans (RX.ext hbw hsz)
      clear HF x1 x2 hbw HT
      by_cases hc : rcmp ks y x < 0
      ·
        have hd : decide (rcmp ks y x < 0) = true := decide_eq_true hc
        have hd4 : (!decide (rcmp ks y x < 0)) = false := by rw [hd]; rfl
        rw [hd4, hd]
        have HJ2 : Hid (highM ks L y a t) := Lib.hid (.inr ⟨x, HY.out, hc⟩)
        go_wp2_with (first | (at_make; refine Stop.un ?_) | (at_builtin; refine Stop.un ?_) | (with_reducible refine Stop.conv 22 9 ?_) | (with_reducible refine Stop.conv 9 22 ?_))
        go_roundw
        case rel => exact ⟨⟨i, t, hi, by omega, by omega, rfl, rfl, HI.out, HJ2.out⟩, hs, hx⟩
        case measure => simp [intOf]; omega
      ·
        have hd : decide (rcmp ks y x < 0) = false := decide_eq_false hc
        have hd4 : (!decide (rcmp ks y x < 0)) = true := by rw [hd]; rfl
        rw [hd4, hd]
        have HI2 : Hid (lowM ks L y a (t + 1)) := Lib.hid (.inr ⟨x, by rw [show t + 1 - a - 1 = t - a by omega]; exact HY.out, hc⟩)
        go_wp2_with (first | (at_make; refine Stop.un ?_) | (at_builtin; refine Stop.un ?_) | (with_reducible refine Stop.conv 22 9 ?_) | (with_reducible refine Stop.conv 9 22 ?_))
        go_roundw
        case rel => exact ⟨⟨t + 1, j, by omega, by omega, hj, by go_num, rfl, HI2.out, HJ.out⟩, hs, hx⟩
        case measure => simp [intOf]; omega
    · obtain rfl : i = j := by omega
      have hmg := merge_right (rcmp ks) (rneg ks) (rtr ks) y L HA.out (i - a) HI.out HJ.out
      have hst : ∃ S1 S2, L.drop (i - a) = S1 ++ S2 ∧ S1.length + i = m ∧ pre ++ (L ++ y :: post) = (pre ++ L.take (i - a)) ++ S1 ++ y :: S2 ++ post := ⟨L.drop (i - a), [], by simp, by rw [List.length_drop]; have := HL.out; omega, by
        rw [show pre ++ L.take (i - a) ++ L.drop (i - a) ++ y :: [] ++ post = pre ++ ((L.take (i - a) ++ L.drop (i - a)) ++ y :: post) by simp only [List.append_nil, List.append_assoc, List.cons_append, List.nil_append], List.take_append_drop]⟩
      have HST := Lib.hid hst
      have HM := Lib.hid (And.intro hmg (show (L.take (i - a)).length = i - a by rw [List.length_take]; have := HL.out; omega))
      clear hst hmg HI HJ HA
      generalize L.take (i - a) = T1 at HST HM
      generalize L.drop (i - a) = T2 at HST HM
      generalize pre ++ (L ++ y :: post) = rows at HST hs
      obtain ⟨wo, hwo⟩ : ∃ wo : World, wo = w := ⟨_, rfl⟩
      subst hwo
      go_wp2_with (first | (at_make; refine Stop.un ?_) | (at_builtin; refine Stop.un ?_) | (with_reducible refine Stop.conv 22 9 ?_) | (with_reducible refine Stop.conv 9 22 ?_))
      go_loopw [17] (fun v wr => ∃ k : Nat, i ≤ k ∧ k ≤ m ∧ v = .int .i64 (k : Int) ∧ (∃ rows, Srt g0 B h ak p ck ks wr rows ∧ Hid (∃ S1 S2, T2 = S1 ++ S2 ∧ S1.length + i = k ∧ rows = (pre ++ T1) ++ S1 ++ y :: S2 ++ post)) ∧ RX B (some g0) wo wr) (fun v _ => (intOf v).toNat)
      case atStart => exact ⟨m, by omega, Nat.le_refl _, rfl, ⟨_, hs, HST⟩, hx⟩
      case round =>
        clear HST hs hx
        obtain ⟨k, hk1, hk2, rfl, ⟨rows, hs, HS⟩, hx⟩ := hrel
        obtain ⟨S1, S2, e1, e2, e3⟩ := HS.out
        by_cases hlt : i < k
        · obtain ⟨e, rfl⟩ : ∃ e, k = e + 1 := ⟨k - 1, by omega⟩
          obtain ⟨S3, x, rfl⟩ : ∃ S3 y, S1 = S3 ++ [y] := by
            rcases List.eq_nil_or_concat S1 with h0 | ⟨S3, y, h0⟩
            · subst h0; simp at e2; omega
            · exact ⟨S3, y, by rw [h0, List.concat_eq_append]⟩
          subst e3
          have e2' : S3.length + i = e := by rw [List.length_append, List.length_singleton] at e2; omega
          obtain ⟨q1, q2, q3⟩ := ins_at (pre ++ T1) S3 S2 post y x (e + 1) (by have := HL.out; have := HM.out.2; rw [List.length_append]; omega)
          rw [show e + 1 - 1 = e by omega] at q2 q3
          have m1 := List.mem_of_getElem? q1
          have m2 := List.mem_of_getElem? q2
          have x1 := hs.getq q1
          have x2 := hs.getq q2
          have Q3 := Lib.hid q3
          have HST : Hid (∃ R1 R2, T2 = R1 ++ R2 ∧ R1.length + i = e ∧ (pre ++ T1) ++ S3 ++ y :: x :: S2 ++ post = (pre ++ T1) ++ R1 ++ y :: R2 ++ post) := Lib.hid ⟨S3, x :: S2, by rw [e1]; simp, e2', by simp⟩
          have hd2 : decide ((i : Int) < ((e + 1 : Nat) : Int)) = true := decide_eq_true (by omega)
          have hd3 : decide ((i : Int) < (e : Int) + 1) = true := decide_eq_true (by omega)
          clear e1 e2 e2' q1 q2 q3 HS
          have hbw : Below wr.heap.size wr wr := Below.refl _ _
          have hsz : B ≤ wr.heap.size := hs.size
          go_upto_region 23 with fail
          refine mixL_start (fun i => i == 15 || i == 17) 18 rfl (by kernel_rfl) ?_
          intro xq hxq hsq
          replace hs := hs.below hxq
          replace hbw := hbw.next hxq
          replace x1 := Ext.cell hxq x1
          replace x2 := Ext.cell hxq x2
          have f1 := hs.at_.free (e + 1)
          have f2 := hs.at_.free e
          have hgl := hs.at_.lt
          refine mixL_pure 0 rfl (by kernel_rfl) rfl ?_
          intro ι U hne
          go_big_quiet_op
          clear hne U ι
          show wpAnyL _ _ _ _ _ _ _ _ _ _
          refine mixL_pure 1 rfl (by kernel_rfl) rfl ?_
          intro ι U hne
          go_big_quiet_op
          clear hne U ι
          show wpAnyL _ _ _ _ _ _ _ _ _ _
          refine mixL_pure 2 rfl (by kernel_rfl) rfl ?_
          intro ι U hne
          go_big_quiet_op
          clear hne U ι
          show wpAnyL _ _ _ _ _ _ _ _ _ _
          refine mixL_pure 3 rfl (by kernel_rfl) rfl ?_
          intro ι U hne
          go_big_quiet_op
          clear hne U ι
          show wpAnyL _ _ _ _ _ _ _ _ _ _
          refine mixL_pure 4 rfl (by kernel_rfl) rfl ?_
          intro ι U hne
          go_big_quiet_op
          clear hne U ι
          show wpAnyL _ _ _ _ _ _ _ _ _ _
          refine mixL_pure 5 rfl (by kernel_rfl) rfl ?_
          intro ι U hne
          go_big_quiet_op
          clear hne U ι
          show wpAnyL _ _ _ _ _ _ _ _ _ _
          refine mixL_pure 6 rfl (by kernel_rfl) rfl ?_
          intro ι U hne
          go_big_quiet_op
          clear hne U ι
          show wpAnyL _ _ _ _ _ _ _ _ _ _
          refine mixL_pure 7 rfl (by kernel_rfl) rfl ?_
          intro ι U hne
          go_big_quiet_op
          clear hne U ι
          show wpAnyL _ _ _ _ _ _ _ _ _ _
          refine mixL_pure 8 rfl (by kernel_rfl) rfl ?_
          intro ι U hne
          go_big_quiet_op
          clear hne U ι
          show wpAnyL _ _ _ _ _ _ _ _ _ _
          refine mixL_read 9 rfl (by kernel_rfl) (by kernel_rfl) rfl ?_
          intro ι U hne hU
          have hcw0 := fun ii => cell_same (hU ii) x1
          have hcw1 := fun ii => cell_same (hU ii) x2
          go_big_quiet_op
          clear hU hne hcw0 hcw1 U ι
          show wpAnyL _ _ _ _ _ _ _ _ _ _
          refine mixL_pure 10 rfl (by kernel_rfl) rfl ?_
          intro ι U hne
          go_big_quiet_op
          clear hne U ι
          show wpAnyL _ _ _ _ _ _ _ _ _ _
          refine mixL_pure 11 rfl (by kernel_rfl) rfl ?_
          intro ι U hne
          go_big_quiet_op
          clear hne U ι
          show wpAnyL _ _ _ _ _ _ _ _ _ _
          refine mixL_pure 12 rfl (by kernel_rfl) rfl ?_
          intro ι U hne
          go_big_quiet_op
          clear hne U ι
          show wpAnyL _ _ _ _ _ _ _ _ _ _
          refine mixL_read 13 rfl (by kernel_rfl) (by kernel_rfl) rfl ?_
          intro ι U hne hU
          have hcw0 := fun ii => cell_same (hU ii) x1
          have hcw1 := fun ii => cell_same (hU ii) x2
          go_big_quiet_op
          clear hU hne hcw0 hcw1 U ι
          show wpAnyL _ _ _ _ _ _ _ _ _ _
          refine mixL_pure 14 rfl (by kernel_rfl) rfl ?_
          intro ι U hne
          go_big_quiet_op
          clear hne U ι
          show wpAnyL _ _ _ _ _ _ _ _ _ _
          refine mixL_late 15 rfl (by kernel_rfl) rfl rfl ?_
          go_wp2_with (first | (at_make; refine Stop.un ?_) | (at_builtin; refine Stop.un ?_) | (with_reducible refine Stop.conv 22 9 ?_) | (with_reducible refine Stop.conv 9 22 ?_))
          refine MixL.mk ?_
          refine mixL_pure 16 rfl (by kernel_rfl) rfl ?_
          intro ι U hne
          go_big_quiet_op
          clear hne U ι
          show wpAnyL _ _ _ _ _ _ _ _ _ _
          refine mixL_late 17 rfl (by kernel_rfl) rfl rfl ?_
          go_wp2_with (first | (at_make; refine Stop.un ?_) | (at_builtin; refine Stop.un ?_) | (with_reducible refine Stop.conv 22 9 ?_) | (with_reducible refine Stop.conv 9 22 ?_))
          refine MixL.mk ?_
          refine mixL_end (by kernel_rfl) ?_
          obtain ⟨hs1, hx3⟩ := hs.swap (e + 1) e y x m1 m2
          rw [Q3.out] at hs1
          replace hx := (hx.trans (RX.ext hbw hsz)).trans hx3
          clear hs x1 x2 f1 f2 hgl hx3 hxq hsq hbw
          generalize (xq.setCell ⟨g0, e + 1, none⟩ (.slice x.a x.n x.cap)).setCell ⟨g0, e, none⟩ (.slice y.a y.n y.cap) = w9 at hs1 hx ⊢
          go_wp2_with (first | (at_make; refine Stop.un ?_) | (at_builtin; refine Stop.un ?_) | (with_reducible refine Stop.conv 22 9 ?_) | (with_reducible refine Stop.conv 9 22 ?_))
          go_roundw
          case rel => exact ⟨e, by omega, by omega, by go_num, ⟨_, hs1, HST⟩, hx⟩
          case measure => simp [intOf] <;> omega
        · obtain rfl : S1 = [] := List.eq_nil_of_length_eq_zero (by omega)
          have e4 : rows = pre ++ mergeS (rcmp ks) L [y] ++ post := by rw [e3, HM.out.1, e1]; simp
          subst e4
          have hd2 : decide ((i : Int) < (k : Int)) = false := decide_eq_false (by omega)
          clear e1 e2 e3 HS HM
          go_wp2_with (first | (at_make; refine Stop.un ?_) | (at_builtin; refine Stop.un ?_) | (with_reducible refine Stop.conv 22 9 ?_) | (with_reducible refine Stop.conv 9 22 ?_))
          exact bodyPost_ret (v := .tuple #[]) (by simp [results, Try.results58, go_sem]) rfl ⟨rfl, hs, hx⟩
end Go.Proofs.Ytbiniecjenencaa
