/- The library's symmetric merge, of rows: one row ahead of many. -/
import Derived.Test.YtbiniecjenencaaSwp
import Derived.Test.YtbiniecjenencaaMrgP
set_option linter.unusedVariables false
set_option linter.unusedSimpArgs false
set_option maxRecDepth 10000
namespace Go.Proofs.Ytbiniecjenencaa
open Go.RowKit
theorem rneg (ks : List Ky) (a b : Rw) : rcmp ks b a = - rcmp ks a b := cmpR_neg _ _ _
theorem rtr (ks : List Ky) (a b d : Rw) (h1 : rcmp ks a b ≤ 0) (h2 : rcmp ks b d ≤ 0) : rcmp ks a d ≤ 0 := by
  have := cmpR_tri a.l b.l d.l ks
  unfold Tri at this
  unfold rcmp at *
  omega
/-- Where a search by halves stands. -/
def BinR (lo hi : Nat) (f g : Nat → Prop) (u v : Value) : Prop := ∃ i j : Nat, lo ≤ i ∧ i ≤ j ∧ j ≤ hi ∧ u = .int .i64 (i : Int) ∧ v = .int .i64 (j : Int) ∧ f i ∧ g j
def lowL (ks : List Ky) (L : List Rw) (x : Rw) (o i : Nat) : Prop := i - o = 0 ∨ ∃ y, L[i - o - 1]? = some y ∧ rcmp ks y x < 0
def highL (ks : List Ky) (L : List Rw) (x : Rw) (o j : Nat) : Prop := L.length ≤ j - o ∨ ∃ y, L[j - o]? = some y ∧ ¬ rcmp ks y x < 0
set_option maxRecDepth 100000 in
set_option maxHeartbeats 8000000 in
theorem sym_left (g0 B h : Nat) (ak : Option Addr) (p ck : Nat) (ks : List Ky) (n cap : Nat) (hnc : n ≤ cap) (hcap : cap ≤ 140737488355328) (pre : List Rw) (x : Rw) (L post : List Rw) (w : World) (hs : Srt g0 B h ak p ck ks w (pre ++ x :: (L ++ post))) (hn : (pre ++ x :: (L ++ post)).length = n) (hA : Asc (rcmp ks) L) (hL : 0 < L.length) (a m b : Nat) (ha : pre.length = a) (hm : a + 1 = m) (hb : m + L.length = b) :
    Calls Try.prog 58 #[.slice (some ⟨g0, 0, none⟩) n cap, .int .i64 (a : Int), .int .i64 (m : Int), .int .i64 (b : Int), cmpF h] w (fun e w' => e = .returned (.tuple #[]) ∧ Srt g0 B h ak p ck ks w' (pre ++ mergeS (rcmp ks) [x] L ++ post) ∧ RX B (some g0) w w') := by
  have hm1 : a < m ∧ m ≤ a + 1 := by omega
  have hab : a + 2 ≤ b ∧ b ≤ n := by
    simp only [List.length_append, List.length_cons] at hn
    omega
  have HA := Lib.hid hA
  have HL : Hid (pre.length = a ∧ a + 1 + L.length = b) := Lib.hid ⟨ha, by omega⟩
  have hH := s0_hB hs
  have hmx : x ∈ pre ++ x :: (L ++ post) := by simp
  have hd0 : (((m : Int) - (a : Int)) == 1) = true := by simp; omega
  clear hn hA hL ha hb hm
  unfold cmpF
  go_enter Try.func58, Try.ntmps58
  go_wp2_with (first | (at_make; refine Stop.un ?_) | (at_builtin; refine Stop.un ?_) | (with_reducible refine Stop.conv 22 9 ?_) | (with_reducible refine Stop.conv 9 22 ?_))
  go_loopw [10, 11] (fun u v wr => BinR m b (lowL ks L x m) (highL ks L x m) u v ∧ Srt g0 B h ak p ck ks wr (pre ++ x :: (L ++ post)) ∧ RX B (some g0) w wr) (fun u v _ => (intOf v).toNat - (intOf u).toNat)
  case atStart => exact ⟨⟨m, b, Nat.le_refl _, by omega, Nat.le_refl _, by go_num, rfl, .inl (by omega), .inl (by have := HL.out; omega)⟩, hs, RX.refl _⟩
  case round =>
    clear hs
    obtain ⟨⟨i, j, hi, hij, hj, rfl, rfl, hI, hJ⟩, hs, hx⟩ := hrel
    have HI := Lib.hid hI
    have HJ := Lib.hid hJ
    clear hI hJ
    by_cases hlt : i < j
    · obtain ⟨t, htd⟩ : ∃ t, (i + j) / 2 = t := ⟨_, rfl⟩
      have htr : i ≤ t ∧ t < j := by omega
      have HT : Hid (((i : Int) + (j : Int)) / 2 = (t : Int)) := Lib.hid (by omega)
      clear htd
      obtain ⟨y, hy⟩ : ∃ y, L[t - m]? = some y := ⟨_, List.getElem?_eq_getElem (by have := HL.out; omega)⟩
      have HY := Lib.hid hy
      have q1 : (pre ++ x :: (L ++ post))[t]? = some y := by
        have := HL.out
        rw [List.getElem?_append_right (by omega), show t - pre.length = (t - m) + 1 by omega, List.getElem?_cons_succ, List.getElem?_append_left (by omega)]
        exact hy
      have q2 : (pre ++ x :: (L ++ post))[a]? = some x := by
        rw [List.getElem?_append_right (by have := HL.out; omega), show a - pre.length = 0 by have := HL.out; omega]
        rfl
      have x1 := hs.getq q1
      have x2 := hs.getq q2
      have HF := Lib.hid (fun (W : World) (s : Srt g0 B h ak p ck ks W (pre ++ x :: (L ++ post))) => sortf_any _ rfl s y x (List.mem_of_getElem? q1) (List.mem_of_getElem? q2))
      have hcc : cmpR y.l x.l ks = rcmp ks y x := rfl
      rw [hcc] at HF
      have hbw : Below wr.heap.size wr wr := Below.refl _ _
      have hsz : B ≤ wr.heap.size := hs.size
      have htn : t < n := by omega
      clear hcc q1 q2 hy hmx
      go_upto_region 5 with fail
      rw [HT.out]
      refine mix_startE 11 rfl (by kernel_rfl) ?_
      intro xq hxq
      replace hs := Srt.below hs hxq
      replace x1 := Ext.cell hxq x1
      replace x2 := Ext.cell hxq x2
      replace hbw := Below.next hbw hxq
      clear hxq
      refine mix_quiet Keeps.ext 0 rfl (by kernel_rfl) rfl ?_
      intro ι U hne hU
      go_big_quiet_op
      clear hU hne U ι
      show wpAnyM _ _ _ _ _ _ _ _ _
      refine mix_quiet Keeps.ext 1 rfl (by kernel_rfl) rfl ?_
      intro ι U hne hU
      go_big_quiet_op
      clear hU hne U ι
      show wpAnyM _ _ _ _ _ _ _ _ _
      refine mix_quiet Keeps.ext 2 rfl (by kernel_rfl) rfl ?_
      intro ι U hne hU
      go_big_quiet_op
      clear hU hne U ι
      show wpAnyM _ _ _ _ _ _ _ _ _
      refine mix_quiet Keeps.ext 3 rfl (by kernel_rfl) rfl ?_
      intro ι U hne hU
      go_big_quiet_op
      clear hU hne U ι
      show wpAnyM _ _ _ _ _ _ _ _ _
      refine mix_quiet Keeps.ext 4 rfl (by kernel_rfl) rfl ?_
      intro ι U hne hU
      have hcw0 := fun ii => (hU ii).cell x1
      have hcw1 := fun ii => (hU ii).cell x2
      go_big_quiet_op
      clear hU hne hcw0 hcw1 U ι
      show wpAnyM _ _ _ _ _ _ _ _ _
      refine mix_quiet Keeps.ext 5 rfl (by kernel_rfl) rfl ?_
      intro ι U hne hU
      go_big_quiet_op
      clear hU hne U ι
      show wpAnyM _ _ _ _ _ _ _ _ _
      refine mix_quiet Keeps.ext 6 rfl (by kernel_rfl) rfl ?_
      intro ι U hne hU
      go_big_quiet_op
      clear hU hne U ι
      show wpAnyM _ _ _ _ _ _ _ _ _
      refine mix_quiet Keeps.ext 7 rfl (by kernel_rfl) rfl ?_
      intro ι U hne hU
      go_big_quiet_op
      clear hU hne U ι
      show wpAnyM _ _ _ _ _ _ _ _ _
      refine mix_quiet Keeps.ext 8 rfl (by kernel_rfl) rfl ?_
      intro ι U hne hU
      have hcw0 := fun ii => (hU ii).cell x1
      have hcw1 := fun ii => (hU ii).cell x2
      go_big_quiet_op
      clear hU hne hcw0 hcw1 U ι
      show wpAnyM _ _ _ _ _ _ _ _ _
      refine mix_any 9 rfl (by kernel_rfl) rfl ?_
      go_wp2_with (first | (at_make; refine Stop.un ?_) | (at_builtin; refine Stop.un ?_) | (with_reducible refine Stop.conv 22 9 ?_) | (with_reducible refine Stop.conv 9 22 ?_))
      refine (HF.out _ hs).mono ?_
      rintro e wq1 ⟨rfl, bq1⟩
      go_wp2_with (first | (at_make; refine Stop.un ?_) | (at_builtin; refine Stop.un ?_) | (with_reducible refine Stop.conv 22 9 ?_) | (with_reducible refine Stop.conv 9 22 ?_))
      refine MixPost.mk bq1 ?_
      replace hs := Srt.below hs bq1
      replace x1 := Ext.cell bq1 x1
      replace x2 := Ext.cell bq1 x2
      replace hbw := Below.next hbw bq1
      clear bq1
      refine mix_quiet Keeps.ext 10 rfl (by kernel_rfl) rfl ?_
      intro ι U hne hU
      go_big_quiet_op
      clear hU hne U ι
      show wpAnyM _ _ _ _ _ _ _ _ _
      refine mix_end (by kernel_rfl) ?_
      replace hx := hx.trans (RX.ext hbw hsz)
      clear HF x1 x2 hbw HT
      by_cases hc : rcmp ks y x < 0
      ·
        have hd : decide (rcmp ks y x < 0) = true := decide_eq_true hc
        have HI2 : Hid (lowL ks L x m (t + 1)) := Lib.hid (.inr ⟨y, by rw [show t + 1 - m - 1 = t - m by omega]; exact HY.out, hc⟩)
        go_wp2_with (first | (at_make; refine Stop.un ?_) | (at_builtin; refine Stop.un ?_) | (with_reducible refine Stop.conv 22 9 ?_) | (with_reducible refine Stop.conv 9 22 ?_))
        go_roundw
        case rel => exact ⟨⟨t + 1, j, by omega, by omega, hj, by go_num, rfl, HI2.out, HJ.out⟩, hs, hx⟩
        case measure => simp [intOf]; omega
      ·
        have hd : decide (rcmp ks y x < 0) = false := decide_eq_false hc
        have HJ2 : Hid (highL ks L x m t) := Lib.hid (.inr ⟨y, HY.out, hc⟩)
        go_wp2_with (first | (at_make; refine Stop.un ?_) | (at_builtin; refine Stop.un ?_) | (with_reducible refine Stop.conv 22 9 ?_) | (with_reducible refine Stop.conv 9 22 ?_))
        go_roundw
        case rel => exact ⟨⟨i, t, hi, by omega, by omega, rfl, rfl, HI.out, HJ2.out⟩, hs, hx⟩
        case measure => simp [intOf]; omega
    · obtain rfl : i = j := by omega
      have hmg := merge_left (rcmp ks) (rneg ks) (rtr ks) x L HA.out (i - m) HI.out HJ.out
      have hst : ∃ S1 S2, L.take (i - m) = S1 ++ S2 ∧ S1.length = a - a ∧ pre ++ x :: (L ++ post) = pre ++ S1 ++ x :: S2 ++ (L.drop (i - m) ++ post) := ⟨[], L.take (i - m), rfl, by simp, by
        rw [show pre ++ [] ++ x :: L.take (i - m) ++ (L.drop (i - m) ++ post) = pre ++ x :: ((L.take (i - m) ++ L.drop (i - m)) ++ post) by simp only [List.append_nil, List.append_assoc, List.cons_append, List.singleton_append], List.take_append_drop]⟩
      have HST := Lib.hid hst
      have HM := Lib.hid (And.intro hmg (show (L.take (i - m)).length = i - m by rw [List.length_take]; have := HL.out; omega))
      clear hst hmg HI HJ HA
      generalize L.take (i - m) = T1 at HST HM
      generalize L.drop (i - m) = T2 at HST HM
      generalize pre ++ x :: (L ++ post) = rows at HST hs
      obtain ⟨wo, hwo⟩ : ∃ wo : World, wo = w := ⟨_, rfl⟩
      subst hwo
      go_wp2_with (first | (at_make; refine Stop.un ?_) | (at_builtin; refine Stop.un ?_) | (with_reducible refine Stop.conv 22 9 ?_) | (with_reducible refine Stop.conv 9 22 ?_))
      go_loopw [13] (fun v wr => ∃ k : Nat, a ≤ k ∧ k + 1 ≤ i ∧ v = .int .i64 (k : Int) ∧ (∃ rows, Srt g0 B h ak p ck ks wr rows ∧ Hid (∃ S1 S2, T1 = S1 ++ S2 ∧ S1.length = k - a ∧ rows = pre ++ S1 ++ x :: S2 ++ (T2 ++ post))) ∧ RX B (some g0) wo wr) (fun v _ => i - (intOf v).toNat)
      case atStart => exact ⟨a, Nat.le_refl _, by omega, rfl, ⟨_, hs, HST⟩, hx⟩
      case round =>
        clear HST hs hx
        obtain ⟨k, hk1, hk2, rfl, ⟨rows, hs, HS⟩, hx⟩ := hrel
        obtain ⟨S1, S2, e1, e2, e3⟩ := HS.out
        have hS2 : S2.length = i - 1 - k := by have := HM.out.2; rw [e1, List.length_append] at this; omega
        by_cases hlt : k + 1 < i
        · obtain ⟨y, S3, rfl⟩ : ∃ y S3, S2 = y :: S3 := by
            cases S2 with
            | nil => simp at hS2; omega
            | cons y S3 => exact ⟨y, S3, rfl⟩
          obtain ⟨q1, q2, q3⟩ := swap_at (pre ++ S1) [] (S3 ++ (T2 ++ post)) x y k (k + 1) (by have := HL.out; rw [List.length_append]; omega) rfl
          have e4 : rows = (pre ++ S1) ++ x :: [] ++ y :: (S3 ++ (T2 ++ post)) := by rw [e3]; simp
          subst e4
          have m1 := List.mem_of_getElem? q1
          have m2 := List.mem_of_getElem? q2
          have x1 := hs.getq q1
          have x2 := hs.getq q2
          have Q3 := Lib.hid q3
          have HST : Hid (∃ R1 R2, T1 = R1 ++ R2 ∧ R1.length = k + 1 - a ∧ pre ++ S1 ++ y :: [] ++ x :: (S3 ++ (T2 ++ post)) = pre ++ R1 ++ x :: R2 ++ (T2 ++ post)) := Lib.hid ⟨S1 ++ [y], S3, by rw [e1]; simp, by simp; omega, by simp⟩
          have hd1 : decide ((k : Int) < (i : Int) - 1) = true := decide_eq_true (by omega)
          have hkn : k + 1 < n := by omega
          clear e1 e2 e3 q1 q2 q3 HS hS2
          have hbw : Below wr.heap.size wr wr := Below.refl _ _
          have hsz : B ≤ wr.heap.size := hs.size
          go_upto_region 11 with fail
          refine mixL_start (fun i => i == 15 || i == 17) 18 rfl (by kernel_rfl) ?_
          intro xq hxq hsq
          replace hs := hs.below hxq
          replace hbw := hbw.next hxq
          replace x1 := Ext.cell hxq x1
          replace x2 := Ext.cell hxq x2
          have f1 := hs.at_.free k
          have f2 := hs.at_.free (k + 1)
          have hgl := hs.at_.lt
          refine mixL_pure 0 rfl (by kernel_rfl) rfl ?_
          intro ι U hne
          go_big_quiet_op
          clear hne U ι
          show wpAnyL _ _ _ _ _ _ _ _ _ _
          refine mixL_pure 1 rfl (by kernel_rfl) rfl ?_
          intro ι U hne
          go_big_quiet_op
          clear hne U ι
          show wpAnyL _ _ _ _ _ _ _ _ _ _
          refine mixL_pure 2 rfl (by kernel_rfl) rfl ?_
          intro ι U hne
          go_big_quiet_op
          clear hne U ι
          show wpAnyL _ _ _ _ _ _ _ _ _ _
          refine mixL_pure 3 rfl (by kernel_rfl) rfl ?_
          intro ι U hne
          go_big_quiet_op
          clear hne U ι
          show wpAnyL _ _ _ _ _ _ _ _ _ _
          refine mixL_pure 4 rfl (by kernel_rfl) rfl ?_
          intro ι U hne
          go_big_quiet_op
          clear hne U ι
          show wpAnyL _ _ _ _ _ _ _ _ _ _
          refine mixL_pure 5 rfl (by kernel_rfl) rfl ?_
          intro ι U hne
          go_big_quiet_op
          clear hne U ι
          show wpAnyL _ _ _ _ _ _ _ _ _ _
          refine mixL_pure 6 rfl (by kernel_rfl) rfl ?_
          intro ι U hne
          go_big_quiet_op
          clear hne U ι
          show wpAnyL _ _ _ _ _ _ _ _ _ _
          refine mixL_pure 7 rfl (by kernel_rfl) rfl ?_
          intro ι U hne
          go_big_quiet_op
          clear hne U ι
          show wpAnyL _ _ _ _ _ _ _ _ _ _
          refine mixL_pure 8 rfl (by kernel_rfl) rfl ?_
          intro ι U hne
          go_big_quiet_op
          clear hne U ι
          show wpAnyL _ _ _ _ _ _ _ _ _ _
          refine mixL_read 9 rfl (by kernel_rfl) (by kernel_rfl) rfl ?_
          intro ι U hne hU
          have hcw0 := fun ii => cell_same (hU ii) x1
          have hcw1 := fun ii => cell_same (hU ii) x2
          go_big_quiet_op
          clear hU hne hcw0 hcw1 U ι
          show wpAnyL _ _ _ _ _ _ _ _ _ _
          refine mixL_pure 10 rfl (by kernel_rfl) rfl ?_
          intro ι U hne
          go_big_quiet_op
          clear hne U ι
          show wpAnyL _ _ _ _ _ _ _ _ _ _
          refine mixL_pure 11 rfl (by kernel_rfl) rfl ?_
          intro ι U hne
          go_big_quiet_op
          clear hne U ι
          show wpAnyL _ _ _ _ _ _ _ _ _ _
          refine mixL_pure 12 rfl (by kernel_rfl) rfl ?_
          intro ι U hne
          go_big_quiet_op
          clear hne U ι
          show wpAnyL _ _ _ _ _ _ _ _ _ _
          refine mixL_read 13 rfl (by kernel_rfl) (by kernel_rfl) rfl ?_
          intro ι U hne hU
          have hcw0 := fun ii => cell_same (hU ii) x1
          have hcw1 := fun ii => cell_same (hU ii) x2
          go_big_quiet_op
          clear hU hne hcw0 hcw1 U ι
          show wpAnyL _ _ _ _ _ _ _ _ _ _
          refine mixL_pure 14 rfl (by kernel_rfl) rfl ?_
          intro ι U hne
          go_big_quiet_op
          clear hne U ι
          show wpAnyL _ _ _ _ _ _ _ _ _ _
          refine mixL_late 15 rfl (by kernel_rfl) rfl rfl ?_
          go_wp2_with (first | (at_make; refine Stop.un ?_) | (at_builtin; refine Stop.un ?_) | (with_reducible refine Stop.conv 22 9 ?_) | (with_reducible refine Stop.conv 9 22 ?_))
          refine MixL.mk ?_
          refine mixL_pure 16 rfl (by kernel_rfl) rfl ?_
          intro ι U hne
          go_big_quiet_op
          clear hne U ι
          show wpAnyL _ _ _ _ _ _ _ _ _ _
          refine mixL_late 17 rfl (by kernel_rfl) rfl rfl ?_
          go_wp2_with (first | (at_make; refine Stop.un ?_) | (at_builtin; refine Stop.un ?_) | (with_reducible refine Stop.conv 22 9 ?_) | (with_reducible refine Stop.conv 9 22 ?_))
          refine MixL.mk ?_
          refine mixL_end (by kernel_rfl) ?_
          obtain ⟨hs1, hx3⟩ := hs.swap k (k + 1) x y m1 m2
          rw [Q3.out] at hs1
          replace hx := (hx.trans (RX.ext hbw hsz)).trans hx3
          clear hs x1 x2 f1 f2 hgl hx3 hxq hsq hbw
          generalize (xq.setCell ⟨g0, k, none⟩ (.slice y.a y.n y.cap)).setCell ⟨g0, k + 1, none⟩ (.slice x.a x.n x.cap) = w9 at hs1 hx ⊢
          go_wp2_with (first | (at_make; refine Stop.un ?_) | (at_builtin; refine Stop.un ?_) | (with_reducible refine Stop.conv 22 9 ?_) | (with_reducible refine Stop.conv 9 22 ?_))
          go_roundw
          case rel => exact ⟨k + 1, by omega, by omega, by go_num, ⟨_, hs1, HST⟩, hx⟩
          case measure => simp [intOf] <;> omega
        · obtain rfl : S2 = [] := List.eq_nil_of_length_eq_zero (by omega)
          have e4 : rows = pre ++ mergeS (rcmp ks) [x] L ++ post := by rw [e3, HM.out.1, e1]; simp
          subst e4
          have hd1 : decide ((k : Int) < (i : Int) - 1) = false := decide_eq_false (by omega)
          clear e1 e2 e3 HS hS2 HM
          go_wp2_with (first | (at_make; refine Stop.un ?_) | (at_builtin; refine Stop.un ?_) | (with_reducible refine Stop.conv 22 9 ?_) | (with_reducible refine Stop.conv 9 22 ?_))
          exact bodyPost_ret (v := .tuple #[]) (by simp [results, Try.results58, go_sem]) rfl ⟨rfl, hs, hx⟩
end Go.Proofs.Ytbiniecjenencaa
