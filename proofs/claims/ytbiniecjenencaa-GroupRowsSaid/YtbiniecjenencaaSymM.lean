/- The library's symmetric merge, of rows: the general case. -/
import Derived.Test.YtbiniecjenencaaSymR
import Derived.Deep.DeepCutAuto
import Derived.Deep.CutBlock
set_option linter.unusedVariables false
set_option linter.unusedSimpArgs false
set_option maxRecDepth 10000
namespace Go.Proofs.Ytbiniecjenencaa
open Go.RowKit
def lowS (ks : List Ky) (A L : List Rw) (a m nn lo i : Nat) : Prop := i = lo ∨ ∃ x y, A[i - a - 1]? = some x ∧ L[nn - i - m]? = some y ∧ ¬ rcmp ks y x < 0
def highS (ks : List Ky) (A L : List Rw) (a m nn hi j : Nat) : Prop := j = hi ∨ ∃ x y, A[j - a]? = some x ∧ L[nn - j - m - 1]? = some y ∧ rcmp ks y x < 0
theorem sym_cut (ks : List Ky) (A L : List Rw) (hA : Asc (rcmp ks) A) (hL : Asc (rcmp ks) L) (a m b mid nn lo hi st : Nat) (h1 : a + A.length = m) (h2 : m + L.length = b) (h3 : a ≤ lo) (h4 : lo ≤ st) (h5 : st ≤ hi) (h6 : hi ≤ m) (h7 : hi ≤ mid) (h8 : nn = mid + m) (h9 : nn ≤ b + lo)
    (c1 : lo = a ∨ b + lo ≤ nn) (c2 : hi = m ∨ hi = mid) (f : lowS ks A L a m nn lo st) (g : highS ks A L a m nn hi st) :
    mergeS (rcmp ks) A L = mergeS (rcmp ks) (A.take (st - a)) (L.take (nn - st - m)) ++ mergeS (rcmp ks) (A.drop (st - a)) (L.drop (nn - st - m)) := by
  refine merge_cut (rcmp ks) (rneg ks) (rtr ks) A L hA hL (st - a) (nn - st - m) ?_ ?_
  · rcases f with rfl | ⟨x, y, hx, hy, hc⟩
    · rcases c1 with rfl | c1
      · exact .inl (by omega)
      · exact .inr (.inl (by omega))
    · exact .inr (.inr ⟨x, y, hx, hy, hc⟩)
  · rcases g with rfl | ⟨x, y, hx, hy, hc⟩
    · rcases c2 with c2 | c2
      · exact .inl (by omega)
      · exact .inr (.inl (by omega))
    · exact .inr (.inr ⟨x, y, hx, hy, hc⟩)
set_option maxRecDepth 100000 in
set_option maxHeartbeats 8000000 in
theorem sym_mid (g0 B h : Nat) (ak : Option Addr) (p ck : Nat) (ks : List Ky) (n cap : Nat) (hnc : n ≤ cap) (hcap : cap ≤ 140737488355328) (pre A L post : List Rw) (w : World) (hs : Srt g0 B h ak p ck ks w (pre ++ (A ++ (L ++ post)))) (hn : (pre ++ (A ++ (L ++ post))).length = n) (hA : Asc (rcmp ks) A) (hL : Asc (rcmp ks) L) (hA2 : 1 < A.length) (hL2 : 1 < L.length)
    (hIH : ∀ (P X Y Q : List Rw) (W : World), Srt g0 B h ak p ck ks W (P ++ (X ++ (Y ++ Q))) → (P ++ (X ++ (Y ++ Q))).length = n → Asc (rcmp ks) X → Asc (rcmp ks) Y → 0 < X.length → 0 < Y.length → X.length + Y.length < A.length + L.length → ∀ a m b : Nat, P.length = a → a + X.length = m → m + Y.length = b →
      Calls Try.prog 58 #[.slice (some ⟨g0, 0, none⟩) n cap, .int .i64 (a : Int), .int .i64 (m : Int), .int .i64 (b : Int), cmpF h] W (fun e w' => e = .returned (.tuple #[]) ∧ Srt g0 B h ak p ck ks w' (P ++ mergeS (rcmp ks) X Y ++ Q) ∧ RX B (some g0) W w'))
    (a m b : Nat) (ha : pre.length = a) (hm : a + A.length = m) (hb : m + L.length = b) :
    Calls Try.prog 58 #[.slice (some ⟨g0, 0, none⟩) n cap, .int .i64 (a : Int), .int .i64 (m : Int), .int .i64 (b : Int), cmpF h] w (fun e w' => e = .returned (.tuple #[]) ∧ Srt g0 B h ak p ck ks w' (pre ++ mergeS (rcmp ks) A L ++ post) ∧ RX B (some g0) w w') := by
  have hab : a + 2 ≤ m ∧ m + 2 ≤ b ∧ b ≤ n := by
    simp only [List.length_append] at hn
    omega
  have HN := Lib.hid hn
  have HA := Lib.hid (And.intro hA hL)
  have HL := Lib.hid (And.intro ha (And.intro hm hb))
  have HIH := Lib.hid hIH
  have HRO := Lib.hid (fun (P X Y Q : List Rw) (W : World) hs hn a m b h1 h2 h3 h4 h5 => rotate_any g0 B h ak p ck ks n cap hnc hcap P X Y Q W hs hn a m b h1 h2 h3 h4 h5)
  have hH := s0_hB hs
  have hd0 : (((m : Int) - (a : Int)) == 1) = false := by simp; omega
  have hd1 : (((b : Int) - (m : Int)) == 1) = false := by simp; omega
  obtain ⟨mid, hmid⟩ : ∃ mid, (a + b) / 2 = mid := ⟨_, rfl⟩
  have hmid1 : 2 * mid ≤ a + b ∧ a + b ≤ 2 * mid + 1 := by omega
  have HT : Hid (((a : Int) + (b : Int)) / 2 = (mid : Int)) := Lib.hid (by omega)
  obtain ⟨nn, hnn⟩ : ∃ nn, nn = mid + m := ⟨_, rfl⟩
  have hnn1 : nn ≤ mid + m ∧ mid + m ≤ nn := by omega
  have HNN : Hid ((mid : Int) + (m : Int) = (nn : Int)) := Lib.hid (by omega)
  clear hn hA hL hA2 hL2 hIH ha hm hb hmid hnn
  have hx : RX B (some g0) w w := RX.refl _
  unfold cmpF at HIH HRO ⊢
  obtain ⟨wo, hwo⟩ : ∃ wo : World, wo = w := ⟨_, rfl⟩
  rw [show RX B (some g0) w w = RX B (some g0) wo w by rw [hwo]] at hx
  suffices hgoal : Calls Try.prog 58 #[.slice (some ⟨g0, 0, none⟩) n cap, .int .i64 (a : Int), .int .i64 (m : Int), .int .i64 (b : Int), .func (.func 41) #[] #[.pointer (some ⟨h, 0, none⟩)]] w (fun e w' => e = .returned (.tuple #[]) ∧ Srt g0 B h ak p ck ks w' (pre ++ mergeS (rcmp ks) A L ++ post) ∧ RX B (some g0) wo w') by rw [hwo] at hgoal; exact hgoal
  clear hwo
  go_enter Try.func58, Try.ntmps58
  go_upto_region 25 with fail
  rw [HT.out]
  go_upto_region 26 with fail
  rw [HNN.out]
  go_upto_if 140 with fail
  go_cut [20, 21] from 140 to 146 (fun u v wx => ∃ lo hi : Nat, u = .int .i64 (lo : Int) ∧ v = .int .i64 (hi : Int) ∧ a ≤ lo ∧ lo ≤ hi ∧ hi ≤ m ∧ hi ≤ mid ∧ nn ≤ b + lo ∧ Hid ((lo = a ∨ b + lo ≤ nn) ∧ (hi = m ∨ hi = mid)) ∧ Srt g0 B h ak p ck ks wx (pre ++ (A ++ (L ++ post))) ∧ RX B (some g0) wo wx)
  case first =>
    by_cases hgt : mid < m
    · have hd : decide ((mid : Int) < (m : Int)) = true := decide_eq_true (by omega)
      go_wp2_with (first | (at_make; refine Stop.un ?_) | (at_builtin; refine Stop.un ?_) | (with_reducible refine Stop.conv 22 9 ?_) | (with_reducible refine Stop.conv 9 22 ?_))
      go_meet
      exact ⟨nn - b, mid, by go_num, rfl, by omega, by omega, by omega, by omega, by omega, Lib.hid (by omega), hs, hx⟩
    · have hd : decide ((mid : Int) < (m : Int)) = false := decide_eq_false (by omega)
      go_wp2_with (first | (at_make; refine Stop.un ?_) | (at_builtin; refine Stop.un ?_) | (with_reducible refine Stop.conv 22 9 ?_) | (with_reducible refine Stop.conv 9 22 ?_))
      go_meet
      exact ⟨a, m, rfl, rfl, by omega, by omega, by omega, by omega, by omega, Lib.hid (by omega), hs, hx⟩
  case rest =>
    clear hs hx hd0 hd1 HT HNN
    obtain ⟨lo, hi, rfl, rfl, h3, h4, h6, h7, h9, HC, hs, hx⟩ := hcut
    go_wp2_with (first | (at_make; refine Stop.un ?_) | (at_builtin; refine Stop.un ?_) | (with_reducible refine Stop.conv 22 9 ?_) | (with_reducible refine Stop.conv 9 22 ?_))
    go_loopw [20, 21] (fun u v wr => BinR lo hi (lowS ks A L a m nn lo) (highS ks A L a m nn hi) u v ∧ Srt g0 B h ak p ck ks wr (pre ++ (A ++ (L ++ post))) ∧ RX B (some g0) wo wr) (fun u v _ => (intOf v).toNat - (intOf u).toNat)
    case atStart => exact ⟨⟨lo, hi, Nat.le_refl _, h4, Nat.le_refl _, rfl, rfl, .inl rfl, .inl rfl⟩, hs, hx⟩
    case round =>
      clear hs hx
      obtain ⟨⟨i, j, hi1, hij, hj, rfl, rfl, hI, hJ⟩, hs, hx⟩ := hrel
      have HI := Lib.hid hI
      have HJ := Lib.hid hJ
      clear hI hJ
      by_cases hlt : i < j
      · obtain ⟨t, htd⟩ : ∃ t, (i + j) / 2 = t := ⟨_, rfl⟩
        have htr : i ≤ t ∧ t < j := by omega
        have HT : Hid (((i : Int) + (j : Int)) / 2 = (t : Int)) := Lib.hid (by omega)
        clear htd
        obtain ⟨q, hq⟩ : ∃ q, nn - 1 - t = q := ⟨_, rfl⟩
        have hqr : m ≤ q ∧ q < b := by omega
        have HQ : Hid ((nn : Int) - 1 - (t : Int) = (q : Int)) := Lib.hid (by omega)
        obtain ⟨x, hxx⟩ : ∃ x, A[t - a]? = some x := ⟨_, List.getElem?_eq_getElem (by have := HL.out; omega)⟩
        obtain ⟨y, hyy⟩ : ∃ y, L[q - m]? = some y := ⟨_, List.getElem?_eq_getElem (by have := HL.out; omega)⟩
        have HX := Lib.hid hxx
        have HY : Hid (L[nn - (t + 1) - m]? = some y ∧ L[nn - t - m - 1]? = some y) := Lib.hid ⟨by rw [show nn - (t + 1) - m = q - m by omega]; exact hyy, by rw [show nn - t - m - 1 = q - m by omega]; exact hyy⟩
        have q1 : (pre ++ (A ++ (L ++ post)))[t]? = some x := by
          have := HL.out
          rw [List.getElem?_append_right (by omega), show t - pre.length = t - a by omega, List.getElem?_append_left (by omega)]
          exact hxx
        have q2 : (pre ++ (A ++ (L ++ post)))[q]? = some y := by
          have := HL.out
          rw [List.getElem?_append_right (by omega), List.getElem?_append_right (by omega), show q - pre.length - A.length = q - m by omega, List.getElem?_append_left (by omega)]
          exact hyy
        have x1 := hs.getq q1
        have x2 := hs.getq q2
        have HF := Lib.hid (fun (W : World) (s : Srt g0 B h ak p ck ks W (pre ++ (A ++ (L ++ post)))) => sortf_any _ rfl s y x (List.mem_of_getElem? q2) (List.mem_of_getElem? q1))
        have hcc : cmpR y.l x.l ks = rcmp ks y x := rfl
        rw [hcc] at HF
        have hbw : Below wr.heap.size wr wr := Below.refl _ _
        have hsz : B ≤ wr.heap.size := hs.size
        have htn : t < n ∧ q < n := by omega
        clear hcc q1 q2 hxx hyy hq
        go_upto_region 35 with fail
        rw [HT.out]
        refine mix_startE 14 rfl (by kernel_rfl) ?_
        intro xq hxq
        replace hs := Srt.below hs hxq
        replace x1 := Ext.cell hxq x1
        replace x2 := Ext.cell hxq x2
        replace hbw := Below.next hbw hxq
        clear hxq
        refine mix_quiet Keeps.ext 0 rfl (by kernel_rfl) rfl ?_
        intro ι U hne hU
        go_big_quiet_op
        clear hU hne U ι
        show wpAnyM _ _ _ _ _ _ _ _ _
        refine mix_quiet Keeps.ext 1 rfl (by kernel_rfl) rfl ?_
        intro ι U hne hU
        go_big_quiet_op
        clear hU hne U ι
        show wpAnyM _ _ _ _ _ _ _ _ _
        refine mix_quiet Keeps.ext 2 rfl (by kernel_rfl) rfl ?_
        intro ι U hne hU
        go_big_quiet_op
        clear hU hne U ι
        show wpAnyM _ _ _ _ _ _ _ _ _
        refine mix_quiet Keeps.ext 3 rfl (by kernel_rfl) rfl ?_
        intro ι U hne hU
        go_big_quiet_op
        clear hU hne U ι
        show wpAnyM _ _ _ _ _ _ _ _ _
        refine mix_quiet Keeps.ext 4 rfl (by kernel_rfl) rfl ?_
        intro ι U hne hU
        go_big_quiet_op
        clear hU hne U ι
        show wpAnyM _ _ _ _ _ _ _ _ _
        rw [HQ.out]
        refine mix_quiet Keeps.ext 5 rfl (by kernel_rfl) rfl ?_
        intro ι U hne hU
        go_big_quiet_op
        clear hU hne U ι
        show wpAnyM _ _ _ _ _ _ _ _ _
        refine mix_quiet Keeps.ext 6 rfl (by kernel_rfl) rfl ?_
        intro ι U hne hU
        have hcw0 := fun ii => (hU ii).cell x1
        have hcw1 := fun ii => (hU ii).cell x2
        go_big_quiet_op
        clear hU hne hcw0 hcw1 U ι
        show wpAnyM _ _ _ _ _ _ _ _ _
        refine mix_quiet Keeps.ext 7 rfl (by kernel_rfl) rfl ?_
        intro ι U hne hU
        go_big_quiet_op
        clear hU hne U ι
        show wpAnyM _ _ _ _ _ _ _ _ _
        refine mix_quiet Keeps.ext 8 rfl (by kernel_rfl) rfl ?_
        intro ι U hne hU
        go_big_quiet_op
        clear hU hne U ι
        show wpAnyM _ _ _ _ _ _ _ _ _
        refine mix_quiet Keeps.ext 9 rfl (by kernel_rfl) rfl ?_
        intro ι U hne hU
        go_big_quiet_op
        clear hU hne U ι
        show wpAnyM _ _ _ _ _ _ _ _ _
        refine mix_quiet Keeps.ext 10 rfl (by kernel_rfl) rfl ?_
        intro ι U hne hU
        have hcw0 := fun ii => (hU ii).cell x1
        have hcw1 := fun ii => (hU ii).cell x2
        go_big_quiet_op
        clear hU hne hcw0 hcw1 U ι
        show wpAnyM _ _ _ _ _ _ _ _ _
        refine mix_any 11 rfl (by kernel_rfl) rfl ?_
        go_wp2_with (first | (at_make; refine Stop.un ?_) | (at_builtin; refine Stop.un ?_) | (with_reducible refine Stop.conv 22 9 ?_) | (with_reducible refine Stop.conv 9 22 ?_))
        refine (HF.out _ hs).mono ?_
        rintro e wq1 ⟨rfl, bq1⟩
        go_wp2_with (first | (at_make; refine Stop.un ?_) | (at_builtin; refine Stop.un ?_) | (with_reducible refine Stop.conv 22 9 ?_) | (with_reducible refine Stop.conv 9 22 ?_))
        refine MixPost.mk bq1 ?_
        replace hs := Srt.below hs bq1
        replace x1 := Ext.cell bq1 x1
        replace x2 := Ext.cell bq1 x2
        replace hbw := Below.next hbw bq1
        clear bq1
        refine mix_quiet Keeps.ext 12 rfl (by kernel_rfl) rfl ?_
        intro ι U hne hU
        go_big_quiet_op
        clear hU hne U ι
        show wpAnyM _ _ _ _ _ _ _ _ _
        refine mix_quiet Keeps.ext 13 rfl (by kernel_rfl) rfl ?_
        intro ι U hne hU
        go_big_quiet_op
        clear hU hne U ι
        show wpAnyM _ _ _ _ _ _ _ _ _
        refine mix_end (by kernel_rfl) ?_
        replace hx := hx.trans (RX.ext hbw hsz)
        clear HF x1 x2 hbw HT HQ
        by_cases hc : rcmp ks y x < 0
        ·
          have hd : decide (rcmp ks y x < 0) = true := decide_eq_true hc
          have hd4 : (!decide (rcmp ks y x < 0)) = false := by rw [hd]; rfl
          rw [hd4, hd]
          have HJ2 : Hid (highS ks A L a m nn hi t) := Lib.hid (.inr ⟨x, y, HX.out, HY.out.2, hc⟩)
          go_wp2_with (first | (at_make; refine Stop.un ?_) | (at_builtin; refine Stop.un ?_) | (with_reducible refine Stop.conv 22 9 ?_) | (with_reducible refine Stop.conv 9 22 ?_))
          go_roundw
          case rel => exact ⟨⟨i, t, hi1, by omega, by omega, rfl, rfl, HI.out, HJ2.out⟩, hs, hx⟩
          case measure => simp [intOf]; omega
        ·
          have hd : decide (rcmp ks y x < 0) = false := decide_eq_false hc
          have hd4 : (!decide (rcmp ks y x < 0)) = true := by rw [hd]; rfl
          rw [hd4, hd]
          have HI2 : Hid (lowS ks A L a m nn lo (t + 1)) := Lib.hid (.inr ⟨x, y, by rw [show t + 1 - a - 1 = t - a by omega]; exact HX.out, HY.out.1, hc⟩)
          go_wp2_with (first | (at_make; refine Stop.un ?_) | (at_builtin; refine Stop.un ?_) | (with_reducible refine Stop.conv 22 9 ?_) | (with_reducible refine Stop.conv 9 22 ?_))
          go_roundw
          case rel => exact ⟨⟨t + 1, j, by omega, by omega, hj, by go_num, rfl, HI2.out, HJ.out⟩, hs, hx⟩
          case measure => simp [intOf]; omega
      · obtain rfl : i = j := by omega
        have hcut := sym_cut ks A L HA.out.1 HA.out.2 a m b mid nn lo hi i HL.out.2.1 HL.out.2.2 h3 hi1 hj h6 h7 (by omega) h9 HC.out.1 HC.out.2 HI.out HJ.out
        obtain ⟨en, hen⟩ : ∃ en, nn - i = en := ⟨_, rfl⟩
        have hen1 : en + i ≤ nn ∧ nn ≤ en + i := by omega
        have HEN : Hid ((nn : Int) - (i : Int) = (en : Int)) := Lib.hid (by omega)
        have hA1 : Asc (rcmp ks) (A.take (i - a)) := List.Pairwise.sublist (List.take_sublist _ _) HA.out.1
        have hA2 : Asc (rcmp ks) (A.drop (i - a)) := List.Pairwise.sublist (List.drop_sublist _ _) HA.out.1
        have hL1 : Asc (rcmp ks) (L.take (nn - i - m)) := List.Pairwise.sublist (List.take_sublist _ _) HA.out.2
        have hL2 : Asc (rcmp ks) (L.drop (nn - i - m)) := List.Pairwise.sublist (List.drop_sublist _ _) HA.out.2
        have kA1 : (A.take (i - a)).length = i - a := by rw [List.length_take]; have := HL.out; omega
        have kA2 : (A.drop (i - a)).length = m - i := by rw [List.length_drop]; have := HL.out; omega
        have kL1 : (L.take (nn - i - m)).length = en - m := by rw [List.length_take]; have := HL.out; omega
        have kL2 : (L.drop (nn - i - m)).length = b - en := by rw [List.length_drop]; have := HL.out; omega
        have HSPL := Lib.hid (And.intro (List.take_append_drop (i - a) A).symm (List.take_append_drop (nn - i - m) L).symm)
        have HLE := Lib.hid (And.intro kA1 (And.intro kA2 (And.intro kL1 kL2)))
        have HAS := Lib.hid (And.intro hA1 (And.intro hA2 (And.intro hL1 hL2)))
        have HCUT := Lib.hid hcut
        clear hcut hA1 hA2 hL1 hL2 kA1 kA2 kL1 kL2 HI HJ hen hlt
        generalize A.take (i - a) = A1 at HCUT HSPL HLE HAS
        generalize A.drop (i - a) = A2 at HCUT HSPL HLE HAS
        generalize L.take (nn - i - m) = L1 at HCUT HSPL HLE HAS
        generalize L.drop (nn - i - m) = L2 at HCUT HSPL HLE HAS
        have hr0 : pre ++ (A ++ (L ++ post)) = (pre ++ A1) ++ A2 ++ L1 ++ (L2 ++ post) := by rw [HSPL.out.1, HSPL.out.2]; simp
        have hn0 := HN.out
        rw [hr0] at hs hn0
        have hmea : A.length + L.length = A1.length + A2.length + L1.length + L2.length := by rw [HSPL.out.1, HSPL.out.2, List.length_append, List.length_append]; omega
        have hn1 : pre.length + A1.length + A2.length + L1.length + L2.length + post.length = n := by rw [← hn0]; simp; omega
        have HN1 := Lib.hid (And.intro hn1 hmea)
        clear hr0 hn1 hmea hn0 HN HSPL HA
        go_upto_region 39 with fail
        rw [HEN.out]
        go_cut [185] from 180 to 185 (fun c wx => ∃ bb : Bool, c = .bool bb ∧ Hid (bb = true ↔ (i < m ∧ m < en)) ∧ Srt g0 B h ak p ck ks wx ((pre ++ A1) ++ A2 ++ L1 ++ (L2 ++ post)) ∧ RX B (some g0) wo wx)
        case first =>
          by_cases e1 : i < m
          · have hd : decide ((i : Int) < (m : Int)) = true := decide_eq_true (by omega)
            by_cases e2 : m < en
            · have hd2 : decide ((m : Int) < (en : Int)) = true := decide_eq_true (by omega)
              go_wp2_with (first | (at_make; refine Stop.un ?_) | (at_builtin; refine Stop.un ?_) | (with_reducible refine Stop.conv 22 9 ?_) | (with_reducible refine Stop.conv 9 22 ?_))
              go_meet
              exact ⟨true, rfl, Lib.hid (by simp; omega), hs, hx⟩
            · have hd2 : decide ((m : Int) < (en : Int)) = false := decide_eq_false (by omega)
              go_wp2_with (first | (at_make; refine Stop.un ?_) | (at_builtin; refine Stop.un ?_) | (with_reducible refine Stop.conv 22 9 ?_) | (with_reducible refine Stop.conv 9 22 ?_))
              go_meet
              exact ⟨false, rfl, Lib.hid (by simp; omega), hs, hx⟩
          · have hd : decide ((i : Int) < (m : Int)) = false := decide_eq_false (by omega)
            go_wp2_with (first | (at_make; refine Stop.un ?_) | (at_builtin; refine Stop.un ?_) | (with_reducible refine Stop.conv 22 9 ?_) | (with_reducible refine Stop.conv 9 22 ?_))
            go_meet
            exact ⟨false, rfl, Lib.hid (by simp; omega), hs, hx⟩
        case rest =>
          clear hs hx HEN
          obtain ⟨bb, rfl, HB, hs, hx⟩ := hcut
          go_upto_if 185 with fail
          go_cut [] from 185 to 191 (fun wx => Srt g0 B h ak p ck ks wx (pre ++ (A1 ++ (L1 ++ (A2 ++ (L2 ++ post))))) ∧ RX B (some g0) wo wx)
          case first =>
            cases bb with
            | true =>
              have hb := HB.out.1 rfl
              have hcall := HRO.out (pre ++ A1) A2 L1 (L2 ++ post) _ hs (by have := HN1.out; simp only [List.length_append, mergeS_length]; omega) i m en (by have := HLE.out; have := HL.out; rw [List.length_append]; omega) (by have := HLE.out; have := HL.out; omega) (by have := HLE.out; have := HL.out; omega) (by have := HLE.out; have := HL.out; omega) (by have := HLE.out; have := HL.out; omega)
              have HCA := Lib.hid hcall
              clear hcall hs HRO HIH
              go_wp2_with (first | (at_make; refine Stop.un ?_) | (at_builtin; refine Stop.un ?_) | (with_reducible refine Stop.conv 22 9 ?_) | (with_reducible refine Stop.conv 9 22 ?_))
              refine HCA.out.mono ?_
              rintro e wz ⟨rfl, sz, xz⟩
              have eq : (pre ++ A1) ++ L1 ++ A2 ++ (L2 ++ post) = pre ++ (A1 ++ (L1 ++ (A2 ++ (L2 ++ post)))) := by simp
              rw [eq] at sz
              replace hx := hx.trans xz
              clear HCA xz eq
              go_wp2_with (first | (at_make; refine Stop.un ?_) | (at_builtin; refine Stop.un ?_) | (with_reducible refine Stop.conv 22 9 ?_) | (with_reducible refine Stop.conv 9 22 ?_))
              go_meet
              exact ⟨sz, hx⟩
            | false =>
              have eq : (pre ++ A1) ++ A2 ++ L1 ++ (L2 ++ post) = pre ++ (A1 ++ (L1 ++ (A2 ++ (L2 ++ post)))) := by
                have hnb : ¬ (i < m ∧ m < en) := fun hh => by simpa using HB.out.2 hh
                have hz : A2 = [] ∨ L1 = [] := by
                  rcases Nat.lt_or_ge i m with h | h
                  · exact .inr (List.eq_nil_of_length_eq_zero (by have := HLE.out; omega))
                  · exact .inl (List.eq_nil_of_length_eq_zero (by have := HLE.out; omega))
                rcases hz with rfl | rfl <;> simp
              rw [eq] at hs
              clear eq HRO HIH
              go_wp2_with (first | (at_make; refine Stop.un ?_) | (at_builtin; refine Stop.un ?_) | (with_reducible refine Stop.conv 22 9 ?_) | (with_reducible refine Stop.conv 9 22 ?_))
              go_meet
              exact ⟨hs, hx⟩
          case rest =>
            clear hs hx HB
            obtain ⟨hs, hx⟩ := hcut
            go_upto_region 41 with fail
            go_cut [199] from 194 to 199 (fun c wx => ∃ bb : Bool, c = .bool bb ∧ Hid (bb = true ↔ (a < i ∧ i < mid)) ∧ Srt g0 B h ak p ck ks wx (pre ++ (A1 ++ (L1 ++ (A2 ++ (L2 ++ post))))) ∧ RX B (some g0) wo wx)
            case first =>
              by_cases e1 : a < i
              ·
                have hd : decide ((a : Int) < (i : Int)) = true := decide_eq_true (by omega)
                by_cases e2 : i < mid
                ·
                  have hd2 : decide ((i : Int) < (mid : Int)) = true := decide_eq_true (by omega)
                  go_wp2_with (first | (at_make; refine Stop.un ?_) | (at_builtin; refine Stop.un ?_) | (with_reducible refine Stop.conv 22 9 ?_) | (with_reducible refine Stop.conv 9 22 ?_))
                  go_meet
                  exact ⟨true, rfl, Lib.hid (by simp; omega), hs, hx⟩
                ·
                  have hd2 : decide ((i : Int) < (mid : Int)) = false := decide_eq_false (by omega)
                  go_wp2_with (first | (at_make; refine Stop.un ?_) | (at_builtin; refine Stop.un ?_) | (with_reducible refine Stop.conv 22 9 ?_) | (with_reducible refine Stop.conv 9 22 ?_))
                  go_meet
                  exact ⟨false, rfl, Lib.hid (by simp; omega), hs, hx⟩
              ·
                have hd : decide ((a : Int) < (i : Int)) = false := decide_eq_false (by omega)
                go_wp2_with (first | (at_make; refine Stop.un ?_) | (at_builtin; refine Stop.un ?_) | (with_reducible refine Stop.conv 22 9 ?_) | (with_reducible refine Stop.conv 9 22 ?_))
                go_meet
                exact ⟨false, rfl, Lib.hid (by simp; omega), hs, hx⟩
            case rest =>
              clear hs hx
              obtain ⟨bb, rfl, HB, hs, hx⟩ := hcut
              go_upto_if 199 with fail
              go_cut [] from 199 to 205 (fun wx => Srt g0 B h ak p ck ks wx ((pre ++ mergeS (rcmp ks) A1 L1) ++ (A2 ++ (L2 ++ post))) ∧ RX B (some g0) wo wx)
              case first =>
                cases bb with
                | true =>
                  have hb := HB.out.1 rfl
                  have hcall := HIH.out pre A1 L1 (A2 ++ (L2 ++ post)) _ hs (by have := HN1.out; simp only [List.length_append, mergeS_length]; omega) HAS.out.1 HAS.out.2.2.1 (by have := HLE.out; have := HL.out; omega) (by have := HLE.out; have := HL.out; omega) (by have := HLE.out; have := HN1.out; omega) a i mid HL.out.1 (by have := HLE.out; have := HL.out; omega) (by have := HLE.out; have := HL.out; omega)
                  have HCA := Lib.hid hcall
                  clear hcall hs HRO HIH
                  go_wp2_with (first | (at_make; refine Stop.un ?_) | (at_builtin; refine Stop.un ?_) | (with_reducible refine Stop.conv 22 9 ?_) | (with_reducible refine Stop.conv 9 22 ?_))
                  refine HCA.out.mono ?_
                  rintro e wz ⟨rfl, sz, xz⟩
                  have eq : pre ++ mergeS (rcmp ks) A1 L1 ++ (A2 ++ (L2 ++ post)) = (pre ++ mergeS (rcmp ks) A1 L1) ++ (A2 ++ (L2 ++ post)) := by simp
                  rw [eq] at sz
                  replace hx := hx.trans xz
                  clear HCA xz eq
                  go_wp2_with (first | (at_make; refine Stop.un ?_) | (at_builtin; refine Stop.un ?_) | (with_reducible refine Stop.conv 22 9 ?_) | (with_reducible refine Stop.conv 9 22 ?_))
                  go_meet
                  exact ⟨sz, hx⟩
                | false =>
                  have eq : pre ++ (A1 ++ (L1 ++ (A2 ++ (L2 ++ post)))) = (pre ++ mergeS (rcmp ks) A1 L1) ++ (A2 ++ (L2 ++ post)) := by
                    have hnb : ¬ (a < i ∧ i < mid) := fun hh => by simpa using HB.out.2 hh
                    have hz : A1 = [] ∨ L1 = [] := by
                      rcases Nat.lt_or_ge a i with h | h
                      · exact .inr (List.eq_nil_of_length_eq_zero (by have := HLE.out; omega))
                      · exact .inl (List.eq_nil_of_length_eq_zero (by have := HLE.out; omega))
                    rcases hz with rfl | rfl <;> simp [nil_mergeS, mergeS_nil]
                  rw [eq] at hs
                  clear eq HRO HIH
                  go_wp2_with (first | (at_make; refine Stop.un ?_) | (at_builtin; refine Stop.un ?_) | (with_reducible refine Stop.conv 22 9 ?_) | (with_reducible refine Stop.conv 9 22 ?_))
                  go_meet
                  exact ⟨hs, hx⟩
              case rest =>
                clear hs hx HB
                obtain ⟨hs, hx⟩ := hcut
                go_upto_region 43 with fail
                go_cut [213] from 208 to 213 (fun c wx => ∃ bb : Bool, c = .bool bb ∧ Hid (bb = true ↔ (mid < en ∧ en < b)) ∧ Srt g0 B h ak p ck ks wx ((pre ++ mergeS (rcmp ks) A1 L1) ++ (A2 ++ (L2 ++ post))) ∧ RX B (some g0) wo wx)
                case first =>
                  by_cases e1 : mid < en
                  ·
                    have hd : decide ((mid : Int) < (en : Int)) = true := decide_eq_true (by omega)
                    by_cases e2 : en < b
                    ·
                      have hd2 : decide ((en : Int) < (b : Int)) = true := decide_eq_true (by omega)
                      go_wp2_with (first | (at_make; refine Stop.un ?_) | (at_builtin; refine Stop.un ?_) | (with_reducible refine Stop.conv 22 9 ?_) | (with_reducible refine Stop.conv 9 22 ?_))
                      go_meet
                      exact ⟨true, rfl, Lib.hid (by simp; omega), hs, hx⟩
                    ·
                      have hd2 : decide ((en : Int) < (b : Int)) = false := decide_eq_false (by omega)
                      go_wp2_with (first | (at_make; refine Stop.un ?_) | (at_builtin; refine Stop.un ?_) | (with_reducible refine Stop.conv 22 9 ?_) | (with_reducible refine Stop.conv 9 22 ?_))
                      go_meet
                      exact ⟨false, rfl, Lib.hid (by simp; omega), hs, hx⟩
                  ·
                    have hd : decide ((mid : Int) < (en : Int)) = false := decide_eq_false (by omega)
                    go_wp2_with (first | (at_make; refine Stop.un ?_) | (at_builtin; refine Stop.un ?_) | (with_reducible refine Stop.conv 22 9 ?_) | (with_reducible refine Stop.conv 9 22 ?_))
                    go_meet
                    exact ⟨false, rfl, Lib.hid (by simp; omega), hs, hx⟩
                case rest =>
                  clear hs hx
                  obtain ⟨bb, rfl, HB, hs, hx⟩ := hcut
                  cases bb with
                  | true =>
                    have hb := HB.out.1 rfl
                    have hcall := HIH.out (pre ++ mergeS (rcmp ks) A1 L1) A2 L2 post _ hs (by have := HN1.out; simp only [List.length_append, mergeS_length]; omega) HAS.out.2.1 HAS.out.2.2.2 (by have := HLE.out; have := HL.out; omega) (by have := HLE.out; have := HL.out; omega) (by have := HLE.out; have := HN1.out; omega) mid en b (by have := HLE.out; have := HL.out; rw [List.length_append, mergeS_length]; omega) (by have := HLE.out; have := HL.out; omega) (by have := HLE.out; have := HL.out; omega)
                    have HCA := Lib.hid hcall
                    clear hcall hs HRO HIH
                    go_wp2_with (first | (at_make; refine Stop.un ?_) | (at_builtin; refine Stop.un ?_) | (with_reducible refine Stop.conv 22 9 ?_) | (with_reducible refine Stop.conv 9 22 ?_))
                    refine HCA.out.mono ?_
                    rintro e wz ⟨rfl, sz, xz⟩
                    have eq : (pre ++ mergeS (rcmp ks) A1 L1) ++ mergeS (rcmp ks) A2 L2 ++ post = (pre ++ mergeS (rcmp ks) A1 L1) ++ mergeS (rcmp ks) A2 L2 ++ post := by simp
                    rw [eq] at sz
                    replace hx := hx.trans xz
                    clear HCA xz eq
                    go_wp2_with (first | (at_make; refine Stop.un ?_) | (at_builtin; refine Stop.un ?_) | (with_reducible refine Stop.conv 22 9 ?_) | (with_reducible refine Stop.conv 9 22 ?_))
                    go_end0
                    refine ⟨rfl, ?_, hx⟩
                    rw [HCUT.out]
                    simpa using sz
                  | false =>
                    have eq : (pre ++ mergeS (rcmp ks) A1 L1) ++ (A2 ++ (L2 ++ post)) = (pre ++ mergeS (rcmp ks) A1 L1) ++ mergeS (rcmp ks) A2 L2 ++ post := by
                      have hnb : ¬ (mid < en ∧ en < b) := fun hh => by simpa using HB.out.2 hh
                      have hz : A2 = [] ∨ L2 = [] := by
                        rcases Nat.lt_or_ge mid en with h | h
                        · exact .inr (List.eq_nil_of_length_eq_zero (by have := HLE.out; omega))
                        · exact .inl (List.eq_nil_of_length_eq_zero (by have := HLE.out; omega))
                      rcases hz with rfl | rfl <;> simp [nil_mergeS, mergeS_nil]
                    rw [eq] at hs
                    clear eq HRO HIH
                    go_wp2_with (first | (at_make; refine Stop.un ?_) | (at_builtin; refine Stop.un ?_) | (with_reducible refine Stop.conv 22 9 ?_) | (with_reducible refine Stop.conv 9 22 ?_))
                    go_end0
                    refine ⟨rfl, ?_, hx⟩
                    rw [HCUT.out]
                    simpa using hs
end Go.Proofs.Ytbiniecjenencaa
