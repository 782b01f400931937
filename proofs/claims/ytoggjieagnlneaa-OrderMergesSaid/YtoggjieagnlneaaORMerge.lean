/- Two lists of rows as one, by the reference; whether keys begin with others. -/
import Derived.Test.YtoggjieagnlneaaOMerge
set_option linter.unusedVariables false
set_option linter.unusedSimpArgs false
namespace Go.Proofs.Ytoggjieagnlneaa
open Go.RowKit
set_option maxRecDepth 100000 in
set_option maxHeartbeats 8000000 in
theorem ormerge_any (a1 : Option Addr) (n1 c1 : Nat) (r1 : List Rw) (a2 : Option Addr) (n2 c2 : Nat) (r2 : List Rw) (ak : Option Addr) (p ck : Nat) (ks : List Ky) (w : World)
    (h1 : Tab w a1 r1) (h2 : Tab w a2 r2) (l1 : r1.length = n1) (l2 : r2.length = n2) (m1 : n1 ≤ c1) (m2 : n2 ≤ c2) (cm1 : c1 ≤ maxLen) (cm2 : c2 ≤ maxLen) (s1 : n1 ≤ 100000) (s2 : n2 ≤ 100000)
    (hk : Cs w ak (kcells ks)) (hp : ks.length = p) (hlp : p ≤ ck) (hcm : ck ≤ maxLen) :
    Calls Try.prog 25 #[.slice a1 n1 c1, .slice a2 n2 c2, .slice ak p ck] w (fun e w' => ∃ ao cap, e = .returned (.slice ao (n1 + n2) cap) ∧ OwnRs w w' (.slice ao (n1 + n2) cap) (n1 + n2) (mergeS (rcmp ks) r1 r2)) := by
  unfold maxLen at cm1 cm2
  have HL := Lib.hid (And.intro l1 l2)
  have HC := Lib.hid (fun (x y : Rw) W (o1 : RowOk W x) (o2 : RowOk W y) hk => orcompare_any x.a x.n x.cap x.l y.a y.n y.cap y.l ak p ck ks W o1 o2 hk hp hlp hcm)
  have HLE := Lib.hid (fun a b A B => mergeS_le (rcmp ks) a b A B)
  have HGT := Lib.hid (fun a b A B (h : 0 < rcmp ks a b) => mergeS_gt (rcmp ks) a b A B (by omega))
  have HN1 : Hid (∀ B, mergeS (rcmp ks) [] B = B) := Lib.hid (fun B => by simp [mergeS])
  have HN2 := Lib.hid (mergeS_nil (rcmp ks))
  have hst : mergeS (rcmp ks) r1 r2 = [] ++ mergeS (rcmp ks) (r1.drop 0) (r2.drop 0) := by simp
  generalize hM : mergeS (rcmp ks) r1 r2 = M at hst ⊢
  have HST := Lib.hid hst
  have hd1 := h1.cs
  have hd2 := h2.cs
  clear l1 l2 hst hM
  generalize mergeS (rcmp ks) = mg at HLE HGT HN1 HN2 HST
  have hcc : ∀ x y : Rw, cmpR x.l y.l ks = rcmp ks x y := fun _ _ => rfl
  go_enter Try.func25, Try.ntmps25
  go_wp2_with (first | (at_make; refine Stop.un ?_) | (at_builtin; refine Stop.un ?_))
  go_loopw [0, 1, 7] (fun va vb v wr => ∃ (i k : Nat) (ai bi : Option Addr) (ab : Option Addr) (cb : Nat) (O : List Rw), i ≤ n1 ∧ k ≤ n2 ∧ va = .slice ai (n1 - i) (c1 - i) ∧ vb = .slice bi (n2 - k) (c2 - k) ∧ v = .slice ab (i + k) cb ∧ Cs w ai (rwcells (r1.drop i)) ∧ Cs w bi (rwcells (r2.drop k)) ∧ OwnRs w wr (.slice ab (i + k) cb) (i + k) O ∧ Hid (M = O ++ mg (r1.drop i) (r2.drop k))) (fun va vb _ _ => (match va with | .slice _ n _ => n | _ => 0) + (match vb with | .slice _ n _ => n | _ => 0))
  case atStart => exact ⟨0, 0, a1, a2, none, 0, [], Nat.zero_le _, Nat.zero_le _, rfl, rfl, rfl, hd1, hd2, Own.nil _ _ (Below.refl _ _), HST⟩
  case round =>
    clear HST hd1 hd2
    obtain ⟨i, k, ai, bi, ab, cb, O, hi, hkn, rfl, rfl, rfl, hA, hB, hO, HS⟩ := hrel
    by_cases hlt1 : i < n1
    · by_cases hlt2 : k < n2
      · have i1 : i < r1.length := by have := HL.out; omega
        have i2 : k < r2.length := by have := HL.out; omega
        have BB := Own.below hO
        have kk := hk.mono BB (Nat.le_refl _)
        obtain ⟨b, o, rfl⟩ := hA.addr (by rw [rwcells_length, List.length_drop]; omega)
        obtain ⟨b', o', rfl⟩ := hB.addr (by rw [rwcells_length, List.length_drop]; omega)
        have d1 : r1.drop i = r1[i] :: r1.drop (i + 1) := List.drop_eq_getElem_cons i1
        have d2 : r2.drop k = r2[k] :: r2.drop (k + 1) := List.drop_eq_getElem_cons i2
        have o1 := (h1.mono BB).ok r1[i] (List.getElem_mem _)
        have o2 := (h2.mono BB).ok r2[k] (List.getElem_mem _)
        have hs := HS.out
        generalize r1[i] = x at o1 d1
        generalize r2[k] = y at o2 d2
        have x0 := (hA.mono BB (Nat.le_refl _)).at (j := 0) (u := .slice x.a x.n x.cap) (by rw [d1]; rfl)
        have y0 := (hB.mono BB (Nat.le_refl _)).at (j := 0) (u := .slice y.a y.n y.cap) (by rw [d2]; rfl)
        rw [Nat.add_zero] at x0 y0
        rw [d1, d2] at hs
        have HCC := Lib.hid (HC.out x y)
        rw [hcc] at HCC
        have HSS := Lib.hid hs
        have HD := Lib.hid (And.intro d1 d2)
        have hln1 : 0 < n1 - i := by omega
        have hln2 : 0 < n2 - k := by omega
        clear hs d1 d2 HS
        have i1l : r1.length = n1 := HL.out.1
        have i2l : r2.length = n2 := HL.out.2
        have HI := Lib.hid (And.intro i1l i2l)
        clear i1l i2l i1 i2
        go_upto_region 3 with fail
        refine mix_startE 9 rfl (by kernel_rfl) ?_
        intro xq hxq
        replace x0 := Ext.cell hxq x0
        replace y0 := Ext.cell hxq y0
        replace o1 := RowOk.mono o1 hxq
        replace o2 := RowOk.mono o2 hxq
        replace kk := Cs.mono kk hxq (Nat.le_refl _)
        replace hO := Own.keep hO hxq
        clear hxq
        refine mix_quiet Keeps.ext 0 rfl (by kernel_rfl) rfl ?_
        intro ι U hne hU
        go_big_quiet_op
        clear hU hne U ι
        show wpAnyM _ _ _ _ _ _ _ _ _
        refine mix_quiet Keeps.ext 1 rfl (by kernel_rfl) rfl ?_
        intro ι U hne hU
        go_big_quiet_op
        clear hU hne U ι
        show wpAnyM _ _ _ _ _ _ _ _ _
        refine mix_quiet Keeps.ext 2 rfl (by kernel_rfl) rfl ?_
        intro ι U hne hU
        have hcw0 := fun ii => (hU ii).cell x0
        have hcw1 := fun ii => (hU ii).cell y0
        go_big_quiet_op
        clear hU hne hcw0 hcw1 U ι
        show wpAnyM _ _ _ _ _ _ _ _ _
        refine mix_quiet Keeps.ext 3 rfl (by kernel_rfl) rfl ?_
        intro ι U hne hU
        go_big_quiet_op
        clear hU hne U ι
        show wpAnyM _ _ _ _ _ _ _ _ _
        refine mix_quiet Keeps.ext 4 rfl (by kernel_rfl) rfl ?_
        intro ι U hne hU
        go_big_quiet_op
        clear hU hne U ι
        show wpAnyM _ _ _ _ _ _ _ _ _
        refine mix_quiet Keeps.ext 5 rfl (by kernel_rfl) rfl ?_
        intro ι U hne hU
        have hcw0 := fun ii => (hU ii).cell x0
        have hcw1 := fun ii => (hU ii).cell y0
        go_big_quiet_op
        clear hU hne hcw0 hcw1 U ι
        show wpAnyM _ _ _ _ _ _ _ _ _
        refine mix_quiet Keeps.ext 6 rfl (by kernel_rfl) rfl ?_
        intro ι U hne hU
        go_big_quiet_op
        clear hU hne U ι
        show wpAnyM _ _ _ _ _ _ _ _ _
        refine mix_any 7 rfl (by kernel_rfl) rfl ?_
        go_wp2_with (first | (at_make; refine Stop.un ?_) | (at_builtin; refine Stop.un ?_))
        refine (HCC.out _ o1 o2 kk).mono ?_
        rintro e wq1 ⟨rfl, bq1⟩
        go_wp2_with (first | (at_make; refine Stop.un ?_) | (at_builtin; refine Stop.un ?_))
        refine MixPost.mk bq1 ?_
        replace x0 := Ext.cell bq1 x0
        replace y0 := Ext.cell bq1 y0
        replace o1 := RowOk.mono o1 bq1
        replace o2 := RowOk.mono o2 bq1
        replace kk := Cs.mono kk bq1 (Nat.le_refl _)
        replace hO := Own.keep hO bq1
        clear bq1
        refine mix_quiet Keeps.ext 8 rfl (by kernel_rfl) rfl ?_
        intro ι U hne hU
        go_big_quiet_op
        clear hU hne U ι
        show wpAnyM _ _ _ _ _ _ _ _ _
        refine mix_end (by kernel_rfl) ?_
        clear o1 o2 kk HCC
        by_cases hc : rcmp ks x y ≤ 0
        ·
          have hd : decide (rcmp ks x y ≤ 0) = true := decide_eq_true hc
          have H2 : Hid (M = (O ++ [x]) ++ mg (r1.drop (i + 1)) (r2.drop k)) := Lib.hid (by rw [HSS.out, HLE.out _ _ _ _ hc, HD.out.2]; simp)
          clear HSS HD
          go_wp2_with (first | (at_make; refine Stop.un ?_) | (at_builtin; refine Stop.un ?_))
          refine Stop.mk (app_rw1 w _ _ rfl rfl hO rfl rfl (by omega) ?_)
          intro a6 c6 w6 hO6 hg6 hk6
          clear hO x0 y0 hg6 hk6
          rw [show i + k + 1 = (i + 1) + k by omega] at hO6 ⊢
          go_wp2_with (first | (at_make; refine Stop.un ?_) | (at_builtin; refine Stop.un ?_) | (with_reducible refine Stop.slice ?_))
          refine Stop.mk (wpList_cutR (some ⟨b, o, none⟩) (n1 - i) (c1 - i) 1 rfl rfl rfl (by omega) (by omega) (hA.mono (Own.below hO6) (Nat.le_refl _)) (by rw [List.length_drop]; have := HI.out; omega) ?_)
          intro a7 h7
          have h8 := h7 w hA
          rw [List.drop_drop] at h8
          rw [show n1 - i - 1 = n1 - (i + 1) by omega, show c1 - i - 1 = c1 - (i + 1) by omega]
          clear h7
          go_wp2_with (first | (at_make; refine Stop.un ?_) | (at_builtin; refine Stop.un ?_))
          go_roundw
          case rel => exact ⟨i + 1, k, a7, _, a6, c6, _, by omega, by omega, rfl, rfl, rfl, h8, hB, hO6, H2⟩
          case measure => simp <;> omega
        ·
          have hd : decide (rcmp ks x y ≤ 0) = false := decide_eq_false hc
          have H2 : Hid (M = (O ++ [y]) ++ mg (r1.drop i) (r2.drop (k + 1))) := Lib.hid (by rw [HSS.out, HGT.out x y _ _ (by omega), HD.out.1]; simp)
          clear HSS HD
          go_wp2_with (first | (at_make; refine Stop.un ?_) | (at_builtin; refine Stop.un ?_))
          refine Stop.mk (app_rw1 w _ _ rfl rfl hO rfl rfl (by omega) ?_)
          intro a6 c6 w6 hO6 hg6 hk6
          clear hO x0 y0 hg6 hk6
          rw [show i + k + 1 = i + (k + 1) by omega] at hO6 ⊢
          go_wp2_with (first | (at_make; refine Stop.un ?_) | (at_builtin; refine Stop.un ?_) | (with_reducible refine Stop.slice ?_))
          refine Stop.mk (wpList_cutR (some ⟨b', o', none⟩) (n2 - k) (c2 - k) 1 rfl rfl rfl (by omega) (by omega) (hB.mono (Own.below hO6) (Nat.le_refl _)) (by rw [List.length_drop]; have := HI.out; omega) ?_)
          intro a7 h7
          have h8 := h7 w hB
          rw [List.drop_drop] at h8
          rw [show n2 - k - 1 = n2 - (k + 1) by omega, show c2 - k - 1 = c2 - (k + 1) by omega]
          clear h7
          go_wp2_with (first | (at_make; refine Stop.un ?_) | (at_builtin; refine Stop.un ?_))
          go_roundw
          case rel => exact ⟨i, k + 1, _, a7, a6, c6, _, by omega, by omega, rfl, rfl, rfl, hA, h8, hO6, H2⟩
          case measure => simp <;> omega
      · have hkk : ¬ k < n2 := hlt2
        have i1 : r1.length = n1 := HL.out.1
        have i2 : r2.length = n2 := HL.out.2
        have HF : Hid (M = O ++ r1.drop i ++ r2.drop k) := Lib.hid (by rw [HS.out, List.drop_of_length_le (show r2.length ≤ k by omega), HN2.out, List.append_nil])
        have HI := Lib.hid (And.intro i1 i2)
        clear i1 i2 HS
        have hd1 : decide ((0 : Int) < ((n1 - i : Nat) : Int)) = true := decide_eq_true (by omega)
        have hd2 : decide ((0 : Int) < ((n2 - k : Nat) : Int)) = false := decide_eq_false (by omega)
        go_wp2_with (first | (at_make; refine Stop.un ?_) | (at_builtin; refine Stop.un ?_))
        refine Stop.mk (app_rws w _ _ rfl rfl hO rfl rfl (by rw [List.length_drop]; have := HI.out; omega) (hA.mono (Own.below hO) (Nat.le_refl _)) (by omega) ?_)
        intro a6 c6 w6 hO6 hg6 hk6
        clear hO hg6 hk6
        go_wp2_with (first | (at_make; refine Stop.un ?_) | (at_builtin; refine Stop.un ?_))
        refine Stop.mk (app_rws w _ _ rfl rfl hO6 rfl rfl (by rw [List.length_drop]; have := HI.out; omega) (hB.mono (Own.below hO6) (Nat.le_refl _)) (by omega) ?_)
        intro a7 c7 w7 hO7 hg7 hk7
        clear hO6 hg7 hk7
        rw [← HF.out, show i + k + (n1 - i) + (n2 - k) = n1 + n2 by omega] at hO7
        rw [show i + k + (n1 - i) + (n2 - k) = n1 + n2 by omega]
        go_wp2_with (first | (at_make; refine Stop.un ?_) | (at_builtin; refine Stop.un ?_))
        go_ret
        exact ⟨_, _, rfl, hO7⟩
    · have hii : ¬ i < n1 := hlt1
      have i1 : r1.length = n1 := HL.out.1
      have i2 : r2.length = n2 := HL.out.2
      have HF : Hid (M = O ++ r1.drop i ++ r2.drop k) := Lib.hid (by rw [HS.out, List.drop_of_length_le (show r1.length ≤ i by omega), HN1.out, List.append_nil])
      have HI := Lib.hid (And.intro i1 i2)
      clear i1 i2 HS
      have hd1 : decide ((0 : Int) < ((n1 - i : Nat) : Int)) = false := decide_eq_false (by omega)
      go_wp2_with (first | (at_make; refine Stop.un ?_) | (at_builtin; refine Stop.un ?_))
      refine Stop.mk (app_rws w _ _ rfl rfl hO rfl rfl (by rw [List.length_drop]; have := HI.out; omega) (hA.mono (Own.below hO) (Nat.le_refl _)) (by omega) ?_)
      intro a6 c6 w6 hO6 hg6 hk6
      clear hO hg6 hk6
      go_wp2_with (first | (at_make; refine Stop.un ?_) | (at_builtin; refine Stop.un ?_))
      refine Stop.mk (app_rws w _ _ rfl rfl hO6 rfl rfl (by rw [List.length_drop]; have := HI.out; omega) (hB.mono (Own.below hO6) (Nat.le_refl _)) (by omega) ?_)
      intro a7 c7 w7 hO7 hg7 hk7
      clear hO6 hg7 hk7
      rw [← HF.out, show i + k + (n1 - i) + (n2 - k) = n1 + n2 by omega] at hO7
      rw [show i + k + (n1 - i) + (n2 - k) = n1 + n2 by omega]
      go_wp2_with (first | (at_make; refine Stop.un ?_) | (at_builtin; refine Stop.un ?_))
      go_ret
      exact ⟨_, _, rfl, hO7⟩
end Go.Proofs.Ytoggjieagnlneaa
