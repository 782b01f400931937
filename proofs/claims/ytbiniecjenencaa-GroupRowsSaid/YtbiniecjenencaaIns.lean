/- The library's insertion sort, of rows. -/
import Derived.Test.YtbiniecjenencaaSrt
import Derived.Test.YtbiniecjenencaaInsP
import Derived.Test.YtbiniecjenencaaMixS
set_option linter.unusedVariables false
set_option linter.unusedSimpArgs false
set_option maxRecDepth 10000
namespace Go.Proofs.Ytbiniecjenencaa
open Go.RowKit
def rcmp (ks : List Ky) (a b : Rw) : Int := cmpR a.l b.l ks
theorem ins_at (pre S1 S2 post : List Rw) (x y : Rw) (j : Nat) (h : j = pre.length + (S1.length + 1)) :
    (pre ++ (S1 ++ [y]) ++ x :: S2 ++ post)[j]? = some x ∧ (pre ++ (S1 ++ [y]) ++ x :: S2 ++ post)[j - 1]? = some y ∧
    ((pre ++ (S1 ++ [y]) ++ x :: S2 ++ post).set j y).set (j - 1) x = pre ++ S1 ++ x :: y :: S2 ++ post := by
  subst h
  refine ⟨?_, ?_, ?_⟩
  · rw [show pre ++ (S1 ++ [y]) ++ x :: S2 ++ post = (pre ++ (S1 ++ [y])) ++ (x :: (S2 ++ post)) by simp]
    rw [List.getElem?_append_right (by simp <;> omega)]
    simp
  · rw [show pre ++ (S1 ++ [y]) ++ x :: S2 ++ post = (pre ++ S1) ++ (y :: x :: (S2 ++ post)) by simp]
    rw [List.getElem?_append_right (by simp <;> omega)]
    simp
  · rw [show pre ++ (S1 ++ [y]) ++ x :: S2 ++ post = (pre ++ S1) ++ (y :: x :: (S2 ++ post)) by simp]
    rw [List.set_append_right _ _ (by simp <;> omega), List.set_append_right _ _ (by simp <;> omega)]
    rw [show pre.length + (S1.length + 1) - (pre ++ S1).length = 1 by simp <;> omega, show pre.length + (S1.length + 1) - 1 - (pre ++ S1).length = 0 by simp <;> omega]
    simp
theorem Srt.getq {g0 B h : Nat} {ak : Option Addr} {p ck : Nat} {ks : List Ky} {w : World} {rows : List Rw} (s : Srt g0 B h ak p ck ks w rows) {i : Nat} {r : Rw} (hi : rows[i]? = some r) : w.cell? ⟨g0, i, none⟩ = some (.slice r.a r.n r.cap) :=
  s.at_.cell i (by simp [rwcells, hi, Rw.sl])
theorem s0_hB {g0 B h : Nat} {ak : Option Addr} {p ck : Nat} {ks : List Ky} {w : World} {rows : List Rw} (s : Srt g0 B h ak p ck ks w rows) : h < B ∧ h ≠ g0 ∧ g0 < B := s.hB
set_option maxRecDepth 100000 in
set_option maxHeartbeats 8000000 in
theorem insertion_any (g0 B h : Nat) (ak : Option Addr) (p ck : Nat) (ks : List Ky) (n cap : Nat) (pre M post : List Rw) (w : World) (hs : Srt g0 B h ak p ck ks w (pre ++ M ++ post)) (hn : (pre ++ M ++ post).length = n) (hnc : n ≤ cap) (hcap : cap ≤ 140737488355328) (a b : Nat) (ha : pre.length = a) (hb : a + M.length = b) :
    Calls Try.prog 57 #[.slice (some ⟨g0, 0, none⟩) n cap, .int .i64 (a : Int), .int .i64 (b : Int), cmpF h] w (fun e w' => e = .returned (.tuple #[]) ∧ Srt g0 B h ak p ck ks w' (pre ++ sortB (rcmp ks) M ++ post) ∧ RX B (some g0) w w') := by
  have HN := Lib.hid hn
  have HBL := Lib.hid hb
  have HBL := Lib.hid hb
  have hab : a ≤ b ∧ b ≤ n := by
    rw [List.length_append, List.length_append] at hn
    omega
  have hH := s0_hB hs
  clear hn hb
  unfold cmpF
  have HZ : Hid ((pre ++ (sortB (rcmp ks) (M.take (a + 1 - a)) ++ M.drop (a + 1 - a)) ++ post) = pre ++ M ++ post) := Lib.hid (by
    rw [show a + 1 - a = 1 by omega, sortB_one (rcmp ks) (M.take 1) (by rw [List.length_take]; omega), List.take_append_drop])
  go_enter Try.func57, Try.ntmps57
  go_wp2_with (first | (at_make; refine Stop.un ?_) | (at_builtin; refine Stop.un ?_) | (with_reducible refine Stop.conv 22 9 ?_) | (with_reducible refine Stop.conv 9 22 ?_))
  go_loopw [8] (fun i wr => ∃ k : Nat, a + 1 ≤ k ∧ k ≤ b + 1 ∧ i = .int .i64 (k : Int) ∧ (∃ rows, Srt g0 B h ak p ck ks wr rows ∧ Hid (rows = pre ++ (sortB (rcmp ks) (M.take (k - a)) ++ M.drop (k - a)) ++ post)) ∧ RX B (some g0) w wr) (fun i _ => b + 1 - (intOf i).toNat)
  case atStart => exact ⟨a + 1, Nat.le_refl _, by omega, by go_num, ⟨_, hs, Lib.hid HZ.out.symm⟩, RX.refl _⟩
  case round =>
    clear HZ hs
    obtain ⟨k, hk1, hk2, rfl, ⟨rows, hs, HR⟩, hx⟩ := hrel
    by_cases hlt : k < b
    · have hkm : k - a < M.length := by have := HBL.out; omega
      have hS : ∃ S, sortB (rcmp ks) (M.take (k - a)) = S := ⟨_, rfl⟩
      obtain ⟨S, hS⟩ := hS
      have hSl : S.length = k - a := by rw [← hS, sortB_length, List.length_take]; omega
      obtain ⟨x, hxm⟩ : ∃ x, M[k - a] = x := ⟨_, rfl⟩
      have hr0 := HR.out
      rw [List.drop_eq_getElem_cons hkm, hS, hxm] at hr0
      have hnext : sortB (rcmp ks) (M.take (k + 1 - a)) = insB (rcmp ks) x S := by
        rw [show k + 1 - a = (k - a) + 1 by omega, List.take_succ_eq_append_getElem hkm, sortB_snoc, hS, hxm]
      have HNX := Lib.hid hnext
      have HDR : Hid (M.drop (k + 1 - a) = M.drop (k - a + 1)) := Lib.hid (by rw [show k + 1 - a = k - a + 1 by omega])
      generalize M.drop (k - a + 1) = post1 at hr0 HDR
      have hst : ∃ S1 S2, S = S1 ++ S2 ∧ k = a + S1.length ∧ rows = pre ++ S1 ++ x :: S2 ++ (post1 ++ post) ∧ ∀ y ∈ S2, rcmp ks x y < 0 := ⟨S, [], by simp, by omega, by rw [hr0]; simp, by simp⟩
      have HST := Lib.hid hst
      clear hr0 hst hS hnext hxm HR
      obtain ⟨wo, rfl⟩ : ∃ wo : World, wo = wr := ⟨_, rfl⟩
      go_wp2_with (first | (at_make; refine Stop.un ?_) | (at_builtin; refine Stop.un ?_) | (with_reducible refine Stop.conv 22 9 ?_) | (with_reducible refine Stop.conv 9 22 ?_))
      go_loopw [9] (fun i wr => ∃ j : Nat, a ≤ j ∧ j ≤ k ∧ i = .int .i64 (j : Int) ∧ (∃ rows, Srt g0 B h ak p ck ks wr rows ∧ Hid (∃ S1 S2, S = S1 ++ S2 ∧ j = a + S1.length ∧ rows = pre ++ S1 ++ x :: S2 ++ (post1 ++ post) ∧ ∀ y ∈ S2, rcmp ks x y < 0)) ∧ RX B (some g0) wo wr) (fun i _ => (intOf i).toNat)
      case atStart => exact ⟨k, by omega, Nat.le_refl _, rfl, ⟨_, hs, HST⟩, RX.refl _⟩
      case round =>
        clear HST hs
        obtain ⟨j, hj1, hj2, rfl, ⟨rows, hs, HST⟩, hx2⟩ := hrel
        by_cases hja : a < j
        · obtain ⟨e, rfl⟩ : ∃ e, j = e + 1 := ⟨j - 1, by omega⟩
          obtain ⟨S1, S2, e1, e2, e3, e4⟩ := HST.out
          obtain ⟨S3, y, rfl⟩ : ∃ S3 y, S1 = S3 ++ [y] := by
            rcases List.eq_nil_or_concat S1 with h0 | ⟨S3, y, h0⟩
            · subst h0; simp at e2; omega
            · exact ⟨S3, y, by rw [h0, List.concat_eq_append]⟩
          subst e3
          obtain ⟨q1, q2, q3⟩ := ins_at pre S3 S2 (post1 ++ post) x y (e + 1) (by simp at e2; omega)
          rw [show e + 1 - 1 = e by omega] at q2 q3
          have m1 := List.mem_of_getElem? q1
          have m2 := List.mem_of_getElem? q2
          have x1 := hs.getq q1
          have x2 := hs.getq q2
          have HF := Lib.hid (fun (W : World) (s : Srt g0 B h ak p ck ks W (pre ++ (S3 ++ [y]) ++ x :: S2 ++ (post1 ++ post))) => sortf_any _ rfl s x y m1 m2)
          have HE1 := Lib.hid e1
          have HE2 := Lib.hid e2
          have HE4 := Lib.hid e4
          have Q3 := Lib.hid q3
          clear e1 e2 e4 q1 q2 q3 HST
          have hbw : Below wr.heap.size wr wr := Below.refl _ _
          have hsz : B ≤ wr.heap.size := hs.size
          have hd1 : decide ((a : Int) < ((e + 1 : Nat) : Int)) = true := decide_eq_true (by omega)
          have hd2 : decide ((a : Int) < (e : Int) + 1) = true := decide_eq_true (by omega)
          go_upto_region 4 with fail
          refine mix_startE 17 rfl (by kernel_rfl) ?_
          intro xq hxq
          replace hs := Srt.below hs hxq
          replace x1 := Ext.cell hxq x1
          replace x2 := Ext.cell hxq x2
          replace hbw := Below.next hbw hxq
          clear hxq
          refine mix_quiet Keeps.ext 0 rfl (by kernel_rfl) rfl ?_
          intro ι U hne hU
          go_big_quiet_op
          clear hU hne U ι
          show wpAnyM _ _ _ _ _ _ _ _ _
          refine mix_quiet Keeps.ext 1 rfl (by kernel_rfl) rfl ?_
          intro ι U hne hU
          go_big_quiet_op
          clear hU hne U ι
          show wpAnyM _ _ _ _ _ _ _ _ _
          refine mix_quiet Keeps.ext 2 rfl (by kernel_rfl) rfl ?_
          intro ι U hne hU
          go_big_quiet_op
          clear hU hne U ι
          show wpAnyM _ _ _ _ _ _ _ _ _
          refine mix_quiet Keeps.ext 3 rfl (by kernel_rfl) rfl ?_
          intro ι U hne hU
          go_big_quiet_op
          clear hU hne U ι
          show wpAnyM _ _ _ _ _ _ _ _ _
          refine mix_quiet Keeps.ext 4 rfl (by kernel_rfl) rfl ?_
          intro ι U hne hU
          go_big_quiet_op
          clear hU hne U ι
          show wpAnyM _ _ _ _ _ _ _ _ _
          refine mix_quiet Keeps.ext 5 rfl (by kernel_rfl) rfl ?_
          intro ι U hne hU
          go_big_quiet_op
          clear hU hne U ι
          show wpAnyM _ _ _ _ _ _ _ _ _
          refine mix_quiet Keeps.ext 6 rfl (by kernel_rfl) rfl ?_
          intro ι U hne hU
          go_big_quiet_op
          clear hU hne U ι
          show wpAnyM _ _ _ _ _ _ _ _ _
          refine mix_quiet Keeps.ext 7 rfl (by kernel_rfl) rfl ?_
          intro ι U hne hU
          go_big_quiet_op
          clear hU hne U ι
          show wpAnyM _ _ _ _ _ _ _ _ _
          refine mix_quiet Keeps.ext 8 rfl (by kernel_rfl) rfl ?_
          intro ι U hne hU
          have hcw0 := fun ii => (hU ii).cell x1
          have hcw1 := fun ii => (hU ii).cell x2
          go_big_quiet_op
          clear hU hne hcw0 hcw1 U ι
          show wpAnyM _ _ _ _ _ _ _ _ _
          refine mix_quiet Keeps.ext 9 rfl (by kernel_rfl) rfl ?_
          intro ι U hne hU
          go_big_quiet_op
          clear hU hne U ι
          show wpAnyM _ _ _ _ _ _ _ _ _
          refine mix_quiet Keeps.ext 10 rfl (by kernel_rfl) rfl ?_
          intro ι U hne hU
          go_big_quiet_op
          clear hU hne U ι
          show wpAnyM _ _ _ _ _ _ _ _ _
          refine mix_quiet Keeps.ext 11 rfl (by kernel_rfl) rfl ?_
          intro ι U hne hU
          go_big_quiet_op
          clear hU hne U ι
          show wpAnyM _ _ _ _ _ _ _ _ _
          refine mix_quiet Keeps.ext 12 rfl (by kernel_rfl) rfl ?_
          intro ι U hne hU
          go_big_quiet_op
          clear hU hne U ι
          show wpAnyM _ _ _ _ _ _ _ _ _
          refine mix_quiet Keeps.ext 13 rfl (by kernel_rfl) rfl ?_
          intro ι U hne hU
          have hcw0 := fun ii => (hU ii).cell x1
          have hcw1 := fun ii => (hU ii).cell x2
          go_big_quiet_op
          clear hU hne hcw0 hcw1 U ι
          show wpAnyM _ _ _ _ _ _ _ _ _
          refine mix_any 14 rfl (by kernel_rfl) rfl ?_
          go_wp2_with (first | (at_make; refine Stop.un ?_) | (at_builtin; refine Stop.un ?_) | (with_reducible refine Stop.conv 22 9 ?_) | (with_reducible refine Stop.conv 9 22 ?_))
          refine (HF.out _ hs).mono ?_
          rintro e wq1 ⟨rfl, bq1⟩
          go_wp2_with (first | (at_make; refine Stop.un ?_) | (at_builtin; refine Stop.un ?_) | (with_reducible refine Stop.conv 22 9 ?_) | (with_reducible refine Stop.conv 9 22 ?_))
          refine MixPost.mk bq1 ?_
          replace hs := Srt.below hs bq1
          replace x1 := Ext.cell bq1 x1
          replace x2 := Ext.cell bq1 x2
          replace hbw := Below.next hbw bq1
          clear bq1
          refine mix_quiet Keeps.ext 15 rfl (by kernel_rfl) rfl ?_
          intro ι U hne hU
          go_big_quiet_op
          clear hU hne U ι
          show wpAnyM _ _ _ _ _ _ _ _ _
          refine mix_quiet Keeps.ext 16 rfl (by kernel_rfl) rfl ?_
          intro ι U hne hU
          go_big_quiet_op
          clear hU hne U ι
          show wpAnyM _ _ _ _ _ _ _ _ _
          refine mix_end (by kernel_rfl) ?_
          have hq0 : cmpR x.l y.l ks = rcmp ks x y := rfl
          rw [hq0]
          clear hq0 HF
          by_cases hc : rcmp ks x y < 0
          ·
            have hd3 : decide (rcmp ks x y < 0) = true := decide_eq_true hc
            go_upto_region 6 with fail
            refine mixL_start (fun i => i == 15 || i == 17) 18 rfl (by kernel_rfl) ?_
            intro xq hxq hsq
            replace hs := hs.below hxq
            replace hbw := hbw.next hxq
            replace x1 := Ext.cell hxq x1
            replace x2 := Ext.cell hxq x2
            have f1 := hs.at_.free (e + 1)
            have f2 := hs.at_.free e
            have hgl := hs.at_.lt
            refine mixL_pure 0 rfl (by kernel_rfl) rfl ?_
            intro ι U hne
            go_big_quiet_op
            clear hne U ι
            show wpAnyL _ _ _ _ _ _ _ _ _ _
            refine mixL_pure 1 rfl (by kernel_rfl) rfl ?_
            intro ι U hne
            go_big_quiet_op
            clear hne U ι
            show wpAnyL _ _ _ _ _ _ _ _ _ _
            refine mixL_pure 2 rfl (by kernel_rfl) rfl ?_
            intro ι U hne
            go_big_quiet_op
            clear hne U ι
            show wpAnyL _ _ _ _ _ _ _ _ _ _
            refine mixL_pure 3 rfl (by kernel_rfl) rfl ?_
            intro ι U hne
            go_big_quiet_op
            clear hne U ι
            show wpAnyL _ _ _ _ _ _ _ _ _ _
            refine mixL_pure 4 rfl (by kernel_rfl) rfl ?_
            intro ι U hne
            go_big_quiet_op
            clear hne U ι
            show wpAnyL _ _ _ _ _ _ _ _ _ _
            refine mixL_pure 5 rfl (by kernel_rfl) rfl ?_
            intro ι U hne
            go_big_quiet_op
            clear hne U ι
            show wpAnyL _ _ _ _ _ _ _ _ _ _
            refine mixL_pure 6 rfl (by kernel_rfl) rfl ?_
            intro ι U hne
            go_big_quiet_op
            clear hne U ι
            show wpAnyL _ _ _ _ _ _ _ _ _ _
            refine mixL_pure 7 rfl (by kernel_rfl) rfl ?_
            intro ι U hne
            go_big_quiet_op
            clear hne U ι
            show wpAnyL _ _ _ _ _ _ _ _ _ _
            refine mixL_pure 8 rfl (by kernel_rfl) rfl ?_
            intro ι U hne
            go_big_quiet_op
            clear hne U ι
            show wpAnyL _ _ _ _ _ _ _ _ _ _
            refine mixL_read 9 rfl (by kernel_rfl) (by kernel_rfl) rfl ?_
            intro ι U hne hU
            have hcw0 := fun ii => cell_same (hU ii) x1
            have hcw1 := fun ii => cell_same (hU ii) x2
            go_big_quiet_op
            clear hU hne hcw0 hcw1 U ι
            show wpAnyL _ _ _ _ _ _ _ _ _ _
            refine mixL_pure 10 rfl (by kernel_rfl) rfl ?_
            intro ι U hne
            go_big_quiet_op
            clear hne U ι
            show wpAnyL _ _ _ _ _ _ _ _ _ _
            refine mixL_pure 11 rfl (by kernel_rfl) rfl ?_
            intro ι U hne
            go_big_quiet_op
            clear hne U ι
            show wpAnyL _ _ _ _ _ _ _ _ _ _
            refine mixL_pure 12 rfl (by kernel_rfl) rfl ?_
            intro ι U hne
            go_big_quiet_op
            clear hne U ι
            show wpAnyL _ _ _ _ _ _ _ _ _ _
            refine mixL_read 13 rfl (by kernel_rfl) (by kernel_rfl) rfl ?_
            intro ι U hne hU
            have hcw0 := fun ii => cell_same (hU ii) x1
            have hcw1 := fun ii => cell_same (hU ii) x2
            go_big_quiet_op
            clear hU hne hcw0 hcw1 U ι
            show wpAnyL _ _ _ _ _ _ _ _ _ _
            refine mixL_pure 14 rfl (by kernel_rfl) rfl ?_
            intro ι U hne
            go_big_quiet_op
            clear hne U ι
            show wpAnyL _ _ _ _ _ _ _ _ _ _
            refine mixL_late 15 rfl (by kernel_rfl) rfl rfl ?_
            go_wp2_with (first | (at_make; refine Stop.un ?_) | (at_builtin; refine Stop.un ?_) | (with_reducible refine Stop.conv 22 9 ?_) | (with_reducible refine Stop.conv 9 22 ?_))
            refine MixL.mk ?_
            refine mixL_pure 16 rfl (by kernel_rfl) rfl ?_
            intro ι U hne
            go_big_quiet_op
            clear hne U ι
            show wpAnyL _ _ _ _ _ _ _ _ _ _
            refine mixL_late 17 rfl (by kernel_rfl) rfl rfl ?_
            go_wp2_with (first | (at_make; refine Stop.un ?_) | (at_builtin; refine Stop.un ?_) | (with_reducible refine Stop.conv 22 9 ?_) | (with_reducible refine Stop.conv 9 22 ?_))
            refine MixL.mk ?_
            refine mixL_end (by kernel_rfl) ?_
            obtain ⟨hs1, hx3⟩ := hs.swap (e + 1) e x y m1 m2
            rw [Q3.out] at hs1
            replace hx2 := (hx2.trans (RX.ext hbw hsz)).trans hx3
            clear hs x1 x2 f1 f2 hgl hx3 hxq hsq hbw
            generalize (xq.setCell ⟨g0, e + 1, none⟩ (.slice y.a y.n y.cap)).setCell ⟨g0, e, none⟩ (.slice x.a x.n x.cap) = w9 at hs1 hx2 ⊢
            have HST : Hid (∃ T1 T2, S = T1 ++ T2 ∧ e = a + T1.length ∧ pre ++ S3 ++ x :: y :: S2 ++ (post1 ++ post) = pre ++ T1 ++ x :: T2 ++ (post1 ++ post) ∧ ∀ y ∈ T2, rcmp ks x y < 0) := Lib.hid ⟨S3, y :: S2, by rw [HE1.out]; simp, by have := HE2.out; simp at this; omega, rfl, fun z hz => by
              rcases List.mem_cons.1 hz with rfl | hz
              · exact hc
              · exact HE4.out z hz⟩
            go_wp2_with (first | (at_make; refine Stop.un ?_) | (at_builtin; refine Stop.un ?_) | (with_reducible refine Stop.conv 22 9 ?_) | (with_reducible refine Stop.conv 9 22 ?_))
            go_roundw
            case rel => exact ⟨e, by omega, by omega, by go_num, ⟨_, hs1, HST⟩, hx2⟩
            case measure => simp [intOf] <;> omega
          ·
            have hd3 : decide (rcmp ks x y < 0) = false := decide_eq_false hc
            have HFIN : Hid (pre ++ (S3 ++ [y]) ++ x :: S2 ++ (post1 ++ post) = pre ++ (sortB (rcmp ks) (M.take (k + 1 - a)) ++ M.drop (k + 1 - a)) ++ post) := Lib.hid (by
              rw [HNX.out, HDR.out, HE1.out, insB_split (rcmp ks) x (S3 ++ [y]) S2 HE4.out (fun S z hz => by
                have := (List.append_inj' hz rfl).2
                simp at this
                rw [← this]; exact hc)]
              simp)
            replace hx2 := hx.trans (hx2.trans (RX.ext hbw hsz))
            clear hx x1 x2 hbw
            go_wp2_with (first | (at_make; refine Stop.un ?_) | (at_builtin; refine Stop.un ?_) | (with_reducible refine Stop.conv 22 9 ?_) | (with_reducible refine Stop.conv 9 22 ?_))
            go_roundw
            case rel => exact ⟨k + 1, by omega, by omega, by go_num, ⟨_, hs, HFIN⟩, hx2⟩
            case measure => simp [intOf]; omega
        · obtain rfl : j = a := by omega
          obtain ⟨S1, S2, e1, e2, e3, e4⟩ := HST.out
          obtain rfl : S1 = [] := List.eq_nil_of_length_eq_zero (by omega)
          subst e3
          have HFIN : Hid (pre ++ [] ++ x :: S2 ++ (post1 ++ post) = pre ++ (sortB (rcmp ks) (M.take (k + 1 - j)) ++ M.drop (k + 1 - j)) ++ post) := Lib.hid (by
            rw [HNX.out, HDR.out, e1, insB_split (rcmp ks) x [] S2 e4 (fun S z hz => by simp at hz)]
            simp)
          have hd1 : decide ((j : Int) < (j : Int)) = false := decide_eq_false (by omega)
          clear e1 e2 e4 HST HNX HDR
          have hbw : Below wr.heap.size wr wr := Below.refl _ _
          have hsz : B ≤ wr.heap.size := hs.size
          go_upto_region 4 with fail
          refine mix_startE 17 rfl (by kernel_rfl) ?_
          intro xq hxq
          replace hs := Srt.below hs hxq
          replace hbw := Below.next hbw hxq
          clear hxq
          refine mix_quiet Keeps.ext 0 rfl (by kernel_rfl) rfl ?_
          intro ι U hne hU
          go_big_quiet_op
          clear hU hne U ι
          show wpAnyM _ _ _ _ _ _ _ _ _
          refine mix_quiet Keeps.ext 1 rfl (by kernel_rfl) rfl ?_
          intro ι U hne hU
          go_big_quiet_op
          clear hU hne U ι
          show wpAnyM _ _ _ _ _ _ _ _ _
          refine mix_quiet Keeps.ext 2 rfl (by kernel_rfl) rfl ?_
          intro ι U hne hU
          go_big_quiet_op
          clear hU hne U ι
          show wpAnyM _ _ _ _ _ _ _ _ _
          refine mix_quiet Keeps.ext 3 rfl (by kernel_rfl) rfl ?_
          intro ι U hne hU
          go_big_quiet_op
          clear hU hne U ι
          show wpAnyM _ _ _ _ _ _ _ _ _
          refine mix_skip Keeps.ext 4 rfl (by kernel_rfl) rfl ?_
          go_big_quiet_skip
          refine wpQuiet_nil ?_
          show wpAnyM _ _ _ _ _ _ _ _ _
          refine mix_skip Keeps.ext 5 rfl (by kernel_rfl) rfl ?_
          go_big_quiet_skip
          refine wpQuiet_nil ?_
          show wpAnyM _ _ _ _ _ _ _ _ _
          refine mix_skip Keeps.ext 6 rfl (by kernel_rfl) rfl ?_
          go_big_quiet_skip
          refine wpQuiet_nil ?_
          show wpAnyM _ _ _ _ _ _ _ _ _
          refine mix_skip Keeps.ext 7 rfl (by kernel_rfl) rfl ?_
          go_big_quiet_skip
          refine wpQuiet_nil ?_
          show wpAnyM _ _ _ _ _ _ _ _ _
          refine mix_skip Keeps.ext 8 rfl (by kernel_rfl) rfl ?_
          go_big_quiet_skip
          refine wpQuiet_nil ?_
          show wpAnyM _ _ _ _ _ _ _ _ _
          refine mix_skip Keeps.ext 9 rfl (by kernel_rfl) rfl ?_
          go_big_quiet_skip
          refine wpQuiet_nil ?_
          show wpAnyM _ _ _ _ _ _ _ _ _
          refine mix_skip Keeps.ext 10 rfl (by kernel_rfl) rfl ?_
          go_big_quiet_skip
          refine wpQuiet_nil ?_
          show wpAnyM _ _ _ _ _ _ _ _ _
          refine mix_skip Keeps.ext 11 rfl (by kernel_rfl) rfl ?_
          go_big_quiet_skip
          refine wpQuiet_nil ?_
          show wpAnyM _ _ _ _ _ _ _ _ _
          refine mix_skip Keeps.ext 12 rfl (by kernel_rfl) rfl ?_
          go_big_quiet_skip
          refine wpQuiet_nil ?_
          show wpAnyM _ _ _ _ _ _ _ _ _
          refine mix_skip Keeps.ext 13 rfl (by kernel_rfl) rfl ?_
          go_big_quiet_skip
          refine wpQuiet_nil ?_
          show wpAnyM _ _ _ _ _ _ _ _ _
          refine mix_skip Keeps.ext 14 rfl (by kernel_rfl) rfl ?_
          go_big_quiet_skip
          refine wpQuiet_nil ?_
          show wpAnyM _ _ _ _ _ _ _ _ _
          refine mix_skip Keeps.ext 15 rfl (by kernel_rfl) rfl ?_
          go_big_quiet_skip
          refine wpQuiet_nil ?_
          show wpAnyM _ _ _ _ _ _ _ _ _
          refine mix_quiet Keeps.ext 16 rfl (by kernel_rfl) rfl ?_
          intro ι U hne hU
          go_big_quiet_op
          clear hU hne U ι
          show wpAnyM _ _ _ _ _ _ _ _ _
          refine mix_end (by kernel_rfl) ?_
          replace hx2 := hx.trans (hx2.trans (RX.ext hbw hsz))
          clear hx hbw
          go_wp2_with (first | (at_make; refine Stop.un ?_) | (at_builtin; refine Stop.un ?_) | (with_reducible refine Stop.conv 22 9 ?_) | (with_reducible refine Stop.conv 9 22 ?_))
          go_roundw
          case rel => exact ⟨k + 1, by omega, by omega, by go_num, ⟨_, hs, HFIN⟩, hx2⟩
          case measure => simp [intOf]; omega
    · have hkm : M.length ≤ k - a := by have := HBL.out; omega
      have hr0 := HR.out
      rw [List.take_of_length_le hkm, List.drop_of_length_le hkm, List.append_nil] at hr0
      subst hr0
      clear HR HBL HN
      go_wp2_with (first | (at_make; refine Stop.un ?_) | (at_builtin; refine Stop.un ?_) | (with_reducible refine Stop.conv 22 9 ?_) | (with_reducible refine Stop.conv 9 22 ?_))
      go_end0
      exact ⟨rfl, hs, hx⟩
end Go.Proofs.Ytbiniecjenencaa
