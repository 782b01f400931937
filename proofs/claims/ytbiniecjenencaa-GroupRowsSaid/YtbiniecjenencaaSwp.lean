/- The library's exchange of two stretches, and its rotation, of rows. -/
import Derived.Test.YtbiniecjenencaaIns
set_option linter.unusedVariables false
set_option linter.unusedSimpArgs false
set_option maxRecDepth 10000
namespace Go.Proofs.Ytbiniecjenencaa
open Go.RowKit
theorem swap_at (P M Q : List Rw) (x y : Rw) (i j : Nat) (hi : P.length = i) (hj : i + 1 + M.length = j) :
    (P ++ x :: M ++ y :: Q)[i]? = some x ∧ (P ++ x :: M ++ y :: Q)[j]? = some y ∧ ((P ++ x :: M ++ y :: Q).set i y).set j x = P ++ y :: M ++ x :: Q := by
  subst hi
  subst hj
  refine ⟨by simp, ?_, ?_⟩
  · rw [List.getElem?_append_right (by simp <;> omega)]
    rw [show P.length + 1 + M.length - (P ++ x :: M).length = 0 by simp <;> omega]
    rfl
  · rw [show P ++ x :: M ++ y :: Q = P ++ x :: (M ++ y :: Q) by simp, List.set_append_right _ _ (Nat.le_refl _), Nat.sub_self, List.set_cons_zero,
      show P ++ y :: (M ++ y :: Q) = (P ++ y :: M) ++ y :: Q by simp, List.set_append_right _ _ (by simp <;> omega), show P.length + 1 + M.length - (P ++ y :: M).length = 0 by simp <;> omega, List.set_cons_zero]
set_option maxRecDepth 100000 in
set_option maxHeartbeats 8000000 in
theorem swaprange_any (g0 B h : Nat) (ak : Option Addr) (p ck : Nat) (ks : List Ky) (n cap : Nat) (pre U mid V post : List Rw) (w : World) (hs : Srt g0 B h ak p ck ks w (pre ++ U ++ mid ++ V ++ post)) (hn : (pre ++ U ++ mid ++ V ++ post).length = n) (hnc : n ≤ cap) (hcap : cap ≤ 140737488355328) (a b k : Nat) (ha : pre.length = a) (hu : U.length = k) (hv : V.length = k) (hb : a + k + mid.length = b) :
    Calls Try.prog 67 #[.slice (some ⟨g0, 0, none⟩) n cap, .int .i64 (a : Int), .int .i64 (b : Int), .int .i64 (k : Int), cmpF h] w (fun e w' => e = .returned (.tuple #[]) ∧ Srt g0 B h ak p ck ks w' (pre ++ V ++ mid ++ U ++ post) ∧ RX B (some g0) w w') := by
  have hab : a + k ≤ b ∧ b + k ≤ n := by
    simp only [List.length_append] at hn
    omega
  have HA := Lib.hid (And.intro ha (And.intro hu (And.intro hv hb)))
  have hst : ∃ U1 U2 V1 V2, U = U1 ++ U2 ∧ V = V1 ++ V2 ∧ U1.length = 0 ∧ V1.length = 0 ∧ pre ++ U ++ mid ++ V ++ post = pre ++ V1 ++ U2 ++ mid ++ U1 ++ V2 ++ post := ⟨[], U, [], V, rfl, rfl, rfl, rfl, by simp⟩
  have HST := Lib.hid hst
  have hH := s0_hB hs
  clear hn ha hu hv hb hst
  unfold cmpF
  go_enter Try.func67, Try.ntmps67
  go_wp2_with (first | (at_make; refine Stop.un ?_) | (at_builtin; refine Stop.un ?_) | (with_reducible refine Stop.conv 22 9 ?_) | (with_reducible refine Stop.conv 9 22 ?_))
  go_loopw [10] (fun v wr => ∃ i : Nat, i ≤ k ∧ v = .int .i64 (i : Int) ∧ (∃ rows, Srt g0 B h ak p ck ks wr rows ∧ Hid (∃ U1 U2 V1 V2, U = U1 ++ U2 ∧ V = V1 ++ V2 ∧ U1.length = i ∧ V1.length = i ∧ rows = pre ++ V1 ++ U2 ++ mid ++ U1 ++ V2 ++ post)) ∧ RX B (some g0) w wr) (fun v _ => k - (intOf v).toNat)
  case atStart => exact ⟨0, Nat.zero_le _, rfl, ⟨_, hs, HST⟩, RX.refl _⟩
  case round =>
    clear HST hs
    obtain ⟨i, hi, rfl, ⟨rows, hs, HS⟩, hx⟩ := hrel
    by_cases hlt : i < k
    · obtain ⟨U1, U2, V1, V2, e1, e2, l1, l2, e3⟩ := HS.out
      have hU2 : U2.length = k - i := by have := HA.out.2.1; rw [e1, List.length_append] at this; omega
      have hV2 : V2.length = k - i := by have := HA.out.2.2.1; rw [e2, List.length_append] at this; omega
      obtain ⟨x, U3, rfl⟩ : ∃ x U3, U2 = x :: U3 := by
        cases U2 with
        | nil => simp at hU2; omega
        | cons x U3 => exact ⟨x, U3, rfl⟩
      obtain ⟨y, V3, rfl⟩ : ∃ x U3, V2 = x :: U3 := by
        cases V2 with
        | nil => simp at hV2; omega
        | cons x U3 => exact ⟨x, U3, rfl⟩
      rw [List.length_cons] at hU2 hV2
      obtain ⟨q1, q2, q3⟩ := swap_at (pre ++ V1) (U3 ++ mid ++ U1) (V3 ++ post) x y (a + i) (b + i) (by have := HA.out.1; rw [List.length_append]; omega) (by have := HA.out.2.2.2; rw [List.length_append, List.length_append]; omega)
      have e4 : rows = (pre ++ V1) ++ x :: (U3 ++ mid ++ U1) ++ y :: (V3 ++ post) := by rw [e3]; simp
      subst e4
      have m1 := List.mem_of_getElem? q1
      have m2 := List.mem_of_getElem? q2
      have x1 := hs.getq q1
      have x2 := hs.getq q2
      have Q3 := Lib.hid q3
      have HST : Hid (∃ T1 T2 R1 R2, U = T1 ++ T2 ∧ V = R1 ++ R2 ∧ T1.length = i + 1 ∧ R1.length = i + 1 ∧ pre ++ V1 ++ y :: (U3 ++ mid ++ U1) ++ x :: (V3 ++ post) = pre ++ R1 ++ T2 ++ mid ++ T1 ++ R2 ++ post) := Lib.hid ⟨U1 ++ [x], U3, V1 ++ [y], V3, by rw [e1]; simp, by rw [e2]; simp, by simp [l1], by simp [l2], by simp⟩
      have hin : a + i < n ∧ b + i < n ∧ a + i ≠ b + i := by omega
      clear e1 e2 e3 l1 l2 q1 q2 q3 HS hU2 hV2
      have hbw : Below wr.heap.size wr wr := Below.refl _ _
      have hsz : B ≤ wr.heap.size := hs.size
      go_upto_region 3 with fail
      refine mixL_start (fun i => i == 21 || i == 23) 24 rfl (by kernel_rfl) ?_
      intro xq hxq hsq
      replace hs := hs.below hxq
      replace hbw := hbw.next hxq
      replace x1 := Ext.cell hxq x1
      replace x2 := Ext.cell hxq x2
      have f1 := hs.at_.free (a + i)
      have f2 := hs.at_.free (b + i)
      have hgl := hs.at_.lt
      refine mixL_pure 0 rfl (by kernel_rfl) rfl ?_
      intro ι U hne
      go_big_quiet_op
      clear hne U ι
      show wpAnyL _ _ _ _ _ _ _ _ _ _
      refine mixL_pure 1 rfl (by kernel_rfl) rfl ?_
      intro ι U hne
      go_big_quiet_op
      clear hne U ι
      show wpAnyL _ _ _ _ _ _ _ _ _ _
      refine mixL_pure 2 rfl (by kernel_rfl) rfl ?_
      intro ι U hne
      go_big_quiet_op
      clear hne U ι
      show wpAnyL _ _ _ _ _ _ _ _ _ _
      refine mixL_pure 3 rfl (by kernel_rfl) rfl ?_
      intro ι U hne
      go_big_quiet_op
      clear hne U ι
      show wpAnyL _ _ _ _ _ _ _ _ _ _
      refine mixL_pure 4 rfl (by kernel_rfl) rfl ?_
      intro ι U hne
      go_big_quiet_op
      clear hne U ι
      show wpAnyL _ _ _ _ _ _ _ _ _ _
      refine mixL_pure 5 rfl (by kernel_rfl) rfl ?_
      intro ι U hne
      go_big_quiet_op
      clear hne U ι
      show wpAnyL _ _ _ _ _ _ _ _ _ _
      refine mixL_pure 6 rfl (by kernel_rfl) rfl ?_
      intro ι U hne
      go_big_quiet_op
      clear hne U ι
      show wpAnyL _ _ _ _ _ _ _ _ _ _
      refine mixL_pure 7 rfl (by kernel_rfl) rfl ?_
      intro ι U hne
      go_big_quiet_op
      clear hne U ι
      show wpAnyL _ _ _ _ _ _ _ _ _ _
      refine mixL_pure 8 rfl (by kernel_rfl) rfl ?_
      intro ι U hne
      go_big_quiet_op
      clear hne U ι
      show wpAnyL _ _ _ _ _ _ _ _ _ _
      refine mixL_pure 9 rfl (by kernel_rfl) rfl ?_
      intro ι U hne
      go_big_quiet_op
      clear hne U ι
      show wpAnyL _ _ _ _ _ _ _ _ _ _
      refine mixL_pure 10 rfl (by kernel_rfl) rfl ?_
      intro ι U hne
      go_big_quiet_op
      clear hne U ι
      show wpAnyL _ _ _ _ _ _ _ _ _ _
      refine mixL_pure 11 rfl (by kernel_rfl) rfl ?_
      intro ι U hne
      go_big_quiet_op
      clear hne U ι
      show wpAnyL _ _ _ _ _ _ _ _ _ _
      refine mixL_pure 12 rfl (by kernel_rfl) rfl ?_
      intro ι U hne
      go_big_quiet_op
      clear hne U ι
      show wpAnyL _ _ _ _ _ _ _ _ _ _
      refine mixL_read 13 rfl (by kernel_rfl) (by kernel_rfl) rfl ?_
      intro ι U hne hU
      have hcw0 := fun ii => cell_same (hU ii) x1
      have hcw1 := fun ii => cell_same (hU ii) x2
      go_big_quiet_op
      clear hU hne hcw0 hcw1 U ι
      show wpAnyL _ _ _ _ _ _ _ _ _ _
      refine mixL_pure 14 rfl (by kernel_rfl) rfl ?_
      intro ι U hne
      go_big_quiet_op
      clear hne U ι
      show wpAnyL _ _ _ _ _ _ _ _ _ _
      refine mixL_pure 15 rfl (by kernel_rfl) rfl ?_
      intro ι U hne
      go_big_quiet_op
      clear hne U ι
      show wpAnyL _ _ _ _ _ _ _ _ _ _
      refine mixL_pure 16 rfl (by kernel_rfl) rfl ?_
      intro ι U hne
      go_big_quiet_op
      clear hne U ι
      show wpAnyL _ _ _ _ _ _ _ _ _ _
      refine mixL_pure 17 rfl (by kernel_rfl) rfl ?_
      intro ι U hne
      go_big_quiet_op
      clear hne U ι
      show wpAnyL _ _ _ _ _ _ _ _ _ _
      refine mixL_pure 18 rfl (by kernel_rfl) rfl ?_
      intro ι U hne
      go_big_quiet_op
      clear hne U ι
      show wpAnyL _ _ _ _ _ _ _ _ _ _
      refine mixL_read 19 rfl (by kernel_rfl) (by kernel_rfl) rfl ?_
      intro ι U hne hU
      have hcw0 := fun ii => cell_same (hU ii) x1
      have hcw1 := fun ii => cell_same (hU ii) x2
      go_big_quiet_op
      clear hU hne hcw0 hcw1 U ι
      show wpAnyL _ _ _ _ _ _ _ _ _ _
      refine mixL_pure 20 rfl (by kernel_rfl) rfl ?_
      intro ι U hne
      go_big_quiet_op
      clear hne U ι
      show wpAnyL _ _ _ _ _ _ _ _ _ _
      refine mixL_late 21 rfl (by kernel_rfl) rfl rfl ?_
      go_wp2_with (first | (at_make; refine Stop.un ?_) | (at_builtin; refine Stop.un ?_) | (with_reducible refine Stop.conv 22 9 ?_) | (with_reducible refine Stop.conv 9 22 ?_))
      refine MixL.mk ?_
      refine mixL_pure 22 rfl (by kernel_rfl) rfl ?_
      intro ι U hne
      go_big_quiet_op
      clear hne U ι
      show wpAnyL _ _ _ _ _ _ _ _ _ _
      refine mixL_late 23 rfl (by kernel_rfl) rfl rfl ?_
      go_wp2_with (first | (at_make; refine Stop.un ?_) | (at_builtin; refine Stop.un ?_) | (with_reducible refine Stop.conv 22 9 ?_) | (with_reducible refine Stop.conv 9 22 ?_))
      refine MixL.mk ?_
      refine mixL_end (by kernel_rfl) ?_
      obtain ⟨hs1, hx3⟩ := hs.swap (a + i) (b + i) x y m1 m2
      rw [Q3.out] at hs1
      replace hx := (hx.trans (RX.ext hbw hsz)).trans hx3
      clear hs x1 x2 f1 f2 hgl hx3 hxq hsq hbw
      generalize (xq.setCell ⟨g0, a + i, none⟩ (.slice y.a y.n y.cap)).setCell ⟨g0, b + i, none⟩ (.slice x.a x.n x.cap) = w9 at hs1 hx ⊢
      go_wp2_with (first | (at_make; refine Stop.un ?_) | (at_builtin; refine Stop.un ?_) | (with_reducible refine Stop.conv 22 9 ?_) | (with_reducible refine Stop.conv 9 22 ?_))
      go_roundw
      case rel => exact ⟨i + 1, by omega, by go_num, ⟨_, hs1, HST⟩, hx⟩
      case measure => simp [intOf] <;> omega
    · obtain ⟨U1, U2, V1, V2, e1, e2, l1, l2, e3⟩ := HS.out
      have hU2 : U2.length = 0 := by have := HA.out.2.1; rw [e1, List.length_append] at this; omega
      have hV2 : V2.length = 0 := by have := HA.out.2.2.1; rw [e2, List.length_append] at this; omega
      obtain rfl := List.eq_nil_of_length_eq_zero hU2
      obtain rfl := List.eq_nil_of_length_eq_zero hV2
      have e4 : rows = pre ++ V ++ mid ++ U ++ post := by rw [e3, e1, e2]; simp
      clear e1 e2 e3 HS
      subst e4
      go_wp2_with (first | (at_make; refine Stop.un ?_) | (at_builtin; refine Stop.un ?_) | (with_reducible refine Stop.conv 22 9 ?_) | (with_reducible refine Stop.conv 9 22 ?_))
      go_end0
      exact ⟨rfl, hs, hx⟩
theorem swaprange_x (g0 B h : Nat) (ak : Option Addr) (p ck : Nat) (ks : List Ky) (n cap : Nat) (hnc : n ≤ cap) (hcap : cap ≤ 140737488355328) (rows pre U mid V post : List Rw) (w : World) (hs : Srt g0 B h ak p ck ks w rows) (hn : rows.length = n) (hr : rows = pre ++ U ++ mid ++ V ++ post) (A C K : Int) (hA : A = (pre.length : Int)) (hK : K = (U.length : Int)) (hV : V.length = U.length) (hC : C = (pre.length : Int) + (U.length : Int) + (mid.length : Int)) :
    Calls Try.prog 67 #[.slice (some ⟨g0, 0, none⟩) n cap, .int .i64 A, .int .i64 C, .int .i64 K, cmpF h] w (fun e w' => e = .returned (.tuple #[]) ∧ Srt g0 B h ak p ck ks w' (pre ++ V ++ mid ++ U ++ post) ∧ RX B (some g0) w w') := by
  subst hA hK hr
  have := swaprange_any g0 B h ak p ck ks n cap pre U mid V post w hs hn hnc hcap pre.length (pre.length + U.length + mid.length) U.length rfl rfl hV rfl
  rwa [show ((pre.length + U.length + mid.length : Nat) : Int) = C by rw [hC]; omega] at this
theorem cut_at (X : List Rw) (k : Nat) (h : k ≤ X.length) : ∃ X1 X2, X = X1 ++ X2 ∧ X1.length = k ∧ X2.length = X.length - k := ⟨X.take k, X.drop k, (List.take_append_drop k X).symm, by rw [List.length_take]; omega, by rw [List.length_drop]⟩
set_option maxRecDepth 100000 in
set_option maxHeartbeats 8000000 in
theorem rotate_any (g0 B h : Nat) (ak : Option Addr) (p ck : Nat) (ks : List Ky) (n cap : Nat) (hnc : n ≤ cap) (hcap : cap ≤ 140737488355328) (pre X Y post : List Rw) (w : World) (hs : Srt g0 B h ak p ck ks w (pre ++ X ++ Y ++ post)) (hn : (pre ++ X ++ Y ++ post).length = n) (a m b : Nat) (ha : pre.length = a) (hm : a + X.length = m) (hb : m + Y.length = b) (hX : 0 < X.length) (hY : 0 < Y.length) :
    Calls Try.prog 63 #[.slice (some ⟨g0, 0, none⟩) n cap, .int .i64 (a : Int), .int .i64 (m : Int), .int .i64 (b : Int), cmpF h] w (fun e w' => e = .returned (.tuple #[]) ∧ Srt g0 B h ak p ck ks w' (pre ++ Y ++ X ++ post) ∧ RX B (some g0) w w') := by
  have hab : a < m ∧ m < b ∧ b ≤ n := by
    simp only [List.length_append] at hn
    omega
  have HSW := Lib.hid (fun (rows pre U mid V post : List Rw) (w : World) hs hn hr A C K hA hK hV hC => swaprange_x g0 B h ak p ck ks n cap hnc hcap rows pre U mid V post w hs hn hr A C K hA hK hV hC)
  have hst : ∃ P X' Y' Q, P.length + (m - a) = m ∧ X'.length = m - a ∧ Y'.length = b - m ∧ pre ++ X ++ Y ++ post = P ++ X' ++ Y' ++ Q ∧ pre ++ Y ++ X ++ post = P ++ Y' ++ X' ++ Q ∧ (P ++ X' ++ Y' ++ Q).length = n := ⟨pre, X, Y, post, by omega, by omega, by omega, rfl, rfl, hn⟩
  have HST := Lib.hid hst
  clear hn ha hX hY hst hm hb
  unfold cmpF at HSW ⊢
  generalize pre ++ Y ++ X ++ post = Fin at HST ⊢
  generalize pre ++ X ++ Y ++ post = R0 at HST hs
  go_enter Try.func63, Try.ntmps63
  go_wp2_with (first | (at_make; refine Stop.un ?_) | (at_builtin; refine Stop.un ?_) | (with_reducible refine Stop.conv 22 9 ?_) | (with_reducible refine Stop.conv 9 22 ?_))
  go_loopw [10, 11] (fun u v wr => ∃ i j : Nat, 0 < i ∧ 0 < j ∧ i ≤ m ∧ m + j ≤ n ∧ u = .int .i64 (i : Int) ∧ v = .int .i64 (j : Int) ∧ (∃ rows, Srt g0 B h ak p ck ks wr rows ∧ Hid (∃ P X' Y' Q, P.length + i = m ∧ X'.length = i ∧ Y'.length = j ∧ rows = P ++ X' ++ Y' ++ Q ∧ Fin = P ++ Y' ++ X' ++ Q ∧ (P ++ X' ++ Y' ++ Q).length = n)) ∧ RX B (some g0) w wr) (fun u v _ => (intOf u).toNat + (intOf v).toNat)
  case atStart => exact ⟨m - a, b - m, by omega, by omega, by omega, by omega, by go_num, by go_num, ⟨_, hs, HST⟩, RX.refl _⟩
  case round =>
    clear HST hs hab
    obtain ⟨i, j, hi, hj, him, hjn, rfl, rfl, ⟨rows, hs, HS⟩, hx⟩ := hrel
    obtain ⟨P, X1, Y1, Q, l1, l2, l3, e1, e2, e3⟩ := HS.out
    clear HS
    by_cases hne : i = j
    · subst hne
      have hd1 : ((i : Int) != (i : Int)) = false := by simp
      have HC := Lib.hid (fun C hC => HSW.out rows P X1 [] Y1 Q wr hs (by rw [e1]; exact e3) (by rw [e1]; simp) ((m : Int) - (i : Int)) C (i : Int) (by omega) (by omega) (by omega) hC)
      have HF : Hid (P ++ Y1 ++ [] ++ X1 ++ Q = Fin) := Lib.hid (by rw [e2]; simp)
      have HM : Hid ((m : Int) = (P.length : Int) + (X1.length : Int) + (([] : List Rw).length : Int)) := Lib.hid (by simp; omega)
      clear e1 e2 e3 l1 l2 l3 HSW
      go_wp2_with (first | (at_make; refine Stop.un ?_) | (at_builtin; refine Stop.un ?_) | (with_reducible refine Stop.conv 22 9 ?_) | (with_reducible refine Stop.conv 9 22 ?_))
      refine (HC.out (m : Int) HM.out).mono ?_
      rintro e w1 ⟨rfl, s1, x1⟩
      rw [HF.out] at s1
      replace hx := hx.trans x1
      clear HC HF HM x1
      go_wp2_with (first | (at_make; refine Stop.un ?_) | (at_builtin; refine Stop.un ?_) | (with_reducible refine Stop.conv 22 9 ?_) | (with_reducible refine Stop.conv 9 22 ?_))
      go_end0
      exact ⟨rfl, s1, hx⟩
    · have hd1 : ((i : Int) != (j : Int)) = true := by simp; omega
      by_cases hlt : j < i
      · obtain ⟨Xa, Xb, rfl, la, lb⟩ := cut_at X1 j (by omega)
        have HC := Lib.hid (fun C hC => HSW.out rows P Xa Xb Y1 Q wr hs (by rw [e1]; exact e3) (by rw [e1]; simp) ((m : Int) - (i : Int)) C (j : Int) (by omega) (by omega) (by omega) hC)
        have HM : Hid ((m : Int) = (P.length : Int) + (Xa.length : Int) + (Xb.length : Int)) := Lib.hid (by simp at l2; omega)
        have HF : Hid (∃ P' X' Y' Q', P'.length + (i - j) = m ∧ X'.length = i - j ∧ Y'.length = j ∧ P ++ Y1 ++ Xb ++ Xa ++ Q = P' ++ X' ++ Y' ++ Q' ∧ Fin = P' ++ Y' ++ X' ++ Q' ∧ (P' ++ X' ++ Y' ++ Q').length = n) := Lib.hid ⟨P ++ Y1, Xb, Xa, Q, by simp at l2 ⊢; omega, by simp at l2; omega, by omega, by simp, by rw [e2]; simp, by simp at e3 ⊢; omega⟩
        have hd2 : decide ((j : Int) < (i : Int)) = true := decide_eq_true (by omega)
        clear e1 e2 e3 l1 l2 l3 la lb hne HSW
        go_wp2_with (first | (at_make; refine Stop.un ?_) | (at_builtin; refine Stop.un ?_) | (with_reducible refine Stop.conv 22 9 ?_) | (with_reducible refine Stop.conv 9 22 ?_))
        refine (HC.out (m : Int) HM.out).mono ?_
        rintro e w1 ⟨rfl, s1, x1⟩
        replace hx := hx.trans x1
        clear HC HM x1 hs
        go_wp2_with (first | (at_make; refine Stop.un ?_) | (at_builtin; refine Stop.un ?_) | (with_reducible refine Stop.conv 22 9 ?_) | (with_reducible refine Stop.conv 9 22 ?_))
        go_roundw
        case rel => exact ⟨i - j, j, by omega, by omega, by omega, by omega, by go_num, rfl, ⟨_, s1, HF⟩, hx⟩
        case measure => simp [intOf]; omega
      · obtain ⟨Ya, Yb, rfl, la, lb⟩ := cut_at Y1 (j - i) (by omega)
        have HC := Lib.hid (fun C hC => HSW.out rows P X1 Ya Yb Q wr hs (by rw [e1]; exact e3) (by rw [e1]; simp) ((m : Int) - (i : Int)) C (i : Int) (by omega) (by omega) (by omega) hC)
        have HM : Hid ((m : Int) + (j : Int) - (i : Int) = (P.length : Int) + (X1.length : Int) + (Ya.length : Int)) := Lib.hid (by simp at l3; omega)
        have HF : Hid (∃ P' X' Y' Q', P'.length + i = m ∧ X'.length = i ∧ Y'.length = j - i ∧ P ++ Yb ++ Ya ++ X1 ++ Q = P' ++ X' ++ Y' ++ Q' ∧ Fin = P' ++ Y' ++ X' ++ Q' ∧ (P' ++ X' ++ Y' ++ Q').length = n) := Lib.hid ⟨P, Yb, Ya, X1 ++ Q, by omega, by omega, by omega, by simp, by rw [e2]; simp, by simp at e3 ⊢; omega⟩
        have hd2 : decide ((j : Int) < (i : Int)) = false := decide_eq_false (by omega)
        have hij : i < j := by omega
        clear e1 e2 e3 l1 l2 l3 la lb hne hlt HSW
        go_wp2_with (first | (at_make; refine Stop.un ?_) | (at_builtin; refine Stop.un ?_) | (with_reducible refine Stop.conv 22 9 ?_) | (with_reducible refine Stop.conv 9 22 ?_))
        refine (HC.out _ HM.out).mono ?_
        rintro e w1 ⟨rfl, s1, x1⟩
        replace hx := hx.trans x1
        clear HC HM x1 hs
        go_wp2_with (first | (at_make; refine Stop.un ?_) | (at_builtin; refine Stop.un ?_) | (with_reducible refine Stop.conv 22 9 ?_) | (with_reducible refine Stop.conv 9 22 ?_))
        go_roundw
        case rel => exact ⟨i, j - i, by omega, by omega, by omega, by omega, rfl, by go_num, ⟨_, s1, HF⟩, hx⟩
        case measure => simp [intOf]; omega
end Go.Proofs.Ytbiniecjenencaa
