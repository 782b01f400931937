/- The reference's Pack. -/
import Derived.Test.YtcjnehlbkjpgbaaPack
set_option linter.unusedVariables false
set_option linter.unusedSimpArgs false
namespace Go.Proofs.Ytcjnehlbkjpgbaa
open Go.RowKit
theorem packE_bad (l : List Nat) (width : Int) (h : bytE l.length width ≠ 0) : packE l width = bytE l.length width := if_pos h
theorem packR_bad (l : List Nat) (width : Int) (h : bytE l.length width ≠ 0) : packR l width = [] := by unfold packR; rw [packE_bad l width h, if_neg h]
theorem packE_range (l : List Nat) (W : Nat) (h : bytE l.length W = 0) (hr : W < widN l) : packE l W = 8 := by unfold packE; rw [if_neg (by simp [h]), if_pos (by omega)]
theorem packR_range (l : List Nat) (W : Nat) (h : bytE l.length W = 0) (hr : W < widN l) : packR l W = [] := by unfold packR; rw [packE_range l W h hr]; rfl
theorem packE_ok (l : List Nat) (W : Nat) (h : bytE l.length W = 0) (hr : ¬ W < widN l) : packE l W = 0 := by unfold packE; rw [if_neg (by simp [h]), if_neg (by omega)]
theorem packR_ok (l : List Nat) (W : Nat) (h : bytE l.length W = 0) (hr : ¬ W < widN l) : packR l W = packB l W := by unfold packR; rw [packE_ok l W h hr]; rfl
theorem pack_any (ao : Option Addr) (m cap : Nat) (width : Int) (l : List Nat) (w : World) (hc : Cs w ao (ucells l)) (hm : l.length = m) (hlc : m ≤ cap) (hu : ∀ x ∈ l, x < 2 ^ 64) :
    Calls Try.prog 10 #[.slice ao m cap, .int .i64 width] w (RetP w (packR l width) (packE l width)) := by
  by_cases h : bytE m width = 0
  · obtain ⟨h1, h2, h3, h4⟩ := bytE_range _ _ h
    obtain ⟨W, rfl⟩ := Int.eq_ofNat_of_zero_le h2
    by_cases hr : W < widN l
    · rw [packR_range l W (by rw [hm]; exact h) hr, packE_range l W (by rw [hm]; exact h) hr]
      exact pack_range ao m cap W l w hc hm hlc (by omega) (by omega) hu hr
    · rw [packR_ok l W (by rw [hm]; exact h) hr, packE_ok l W (by rw [hm]; exact h) hr]
      exact pack_ok ao m cap W l w hc hm hlc (by omega) (by omega) hu (by omega)
  · rw [packR_bad l width (by rw [hm]; exact h), packE_bad l width (by rw [hm]; exact h), hm]
    exact pack_bad ao m cap width w h
theorem add_eq (c : Nat) (k : Nat) (h : c < 2 ^ (k % 8)) : c + 2 ^ (k % 8) = c ||| 2 ^ (k % 8) := by
  have h1 := Nat.two_pow_add_eq_or_of_lt h 1
  rw [Nat.mul_one] at h1
  rw [Nat.add_comm, h1, Nat.or_comm]
theorem add_piece (c k : Nat) (hc : c < 256) (h : c < 2 ^ (k % 8)) : (((c : Int) + 2 ^ (k % 8)) % 256) = ((c ||| (1 % 2 ^ 1) * 2 ^ (k % 8) : Nat) : Int) := by
  have hp : 2 ^ (k % 8) ≤ 2 ^ 7 := Nat.pow_le_pow_right (by decide) (by omega)
  have hx : c ||| 2 ^ (k % 8) < 2 ^ 8 := Nat.or_lt_two_pow (by omega) (by omega)
  have e : ((c : Int) + 2 ^ (k % 8)) = ((c ||| 2 ^ (k % 8) : Nat) : Int) := by
    rw [← add_eq c k h, Int.natCast_add, Int.natCast_pow]; rfl
  rw [e, show 1 % 2 ^ 1 = 1 from rfl, Nat.one_mul]
  exact Int.emod_eq_of_lt (Int.natCast_nonneg _) (by omega)
set_option maxHeartbeats 1000000 in
theorem rpack_bad (ao : Option Addr) (m cap : Nat) (width : Int) (w : World) (h : bytE m width ≠ 0) :
    Calls Try.prog 11 #[.slice ao m cap, .int .i64 width] w (RetP w [] (bytE m width)) := by
  have HB := Lib.hid (fun w => rbytes_any m width w)
  rw [bytE_bad h] at HB
  generalize bytE m width = er at h HB ⊢
  have he : (er != 0) = true := by simpa using h
  go_enter Try.func11, Try.ntmps11
  go_wp2_with (first | (at_make; refine Stop.un ?_) | (at_builtin; refine Stop.un ?_) | (with_reducible refine Stop.conv 24 9 ?_) | (with_reducible refine Stop.conv 9 24 ?_))
  refine (HB.out _).mono ?_
  rintro e w1 ⟨rfl, rfl⟩
  go_wp2_with (first | (at_make; refine Stop.un ?_) | (at_builtin; refine Stop.un ?_) | (with_reducible refine Stop.conv 24 9 ?_) | (with_reducible refine Stop.conv 9 24 ?_))
  go_ret2
  exact ⟨none, 0, 0, rfl, rfl, Own.nil _ _ (Below.refl _ _)⟩
set_option maxHeartbeats 4000000 in
theorem rpack_ok (ao : Option Addr) (m cap W : Nat) (l : List Nat) (w : World) (hc : Cs w ao (ucells l)) (hm : l.length = m) (hlc : m ≤ cap) (hl : m ≤ 4096) (hW : W ≤ 64) (hu : ∀ x ∈ l, x < 2 ^ 64) :
    Calls Try.prog 11 #[.slice ao m cap, .int .i64 (W : Int)] w (RetP w (if W < widN l then [] else packB l W) (if W < widN l then 8 else 0)) := by
  have HB := Lib.hid (fun w => rbytes_any m W w)
  rw [bytE_ok m W hl hW, bytN_ok m W hl hW] at HB
  have hT : m * W ≤ 4096 * 64 := Nat.mul_le_mul hl hW
  have hn2 : (m * W + 7) / 8 ≤ 40000 := by omega
  have HF := Lib.hid (fun i j hi hj => fW_at l W i j hi hj)
  have HE : Hid (∀ bs k, k = m * W → Bt bs ((m * W + 7) / 8) k (fW l W) → bs = packB l W) := Lib.hid (fun bs k hk h => h.packed (by rw [hm]) (by rw [hm]; exact hk))
  have HTI : Hid (∀ i, i < m → i * W + W ≤ m * W) := Lib.hid (fun i hi => by have : (i + 1) * W ≤ m * W := Nat.mul_le_mul_right _ hi
                                                                             rw [Nat.add_mul] at this; omega)
  have HSU : Hid (∀ i, (i + 1) * W = i * W + W) := Lib.hid (fun i => by rw [Nat.add_mul]; omega)
  have HLEN : Hid (∀ bs k f, Bt bs ((m * W + 7) / 8) k f → bs.length = (m * W + 7) / 8) := Lib.hid (fun bs k f h => h.1)
  have hwl := widN_le l W hu
  have HWL := Lib.hid hwl
  generalize hT' : m * W = T at HB hn2 HTI HE HLEN hT
  have HT8 : Hid (∀ p, p < T → p / 8 < (T + 7) / 8) := Lib.hid (fun p hp => by omega)
  have HTW := Lib.hid hT'
  have HZ : Hid (Bt (List.replicate ((T + 7) / 8) 0) ((T + 7) / 8) 0 (fW l W)) := Lib.hid (Bt.zero _ _)
  generalize (T + 7) / 8 = n at HB hn2 HE HLEN HT8 HZ
  generalize fW l W = F at HF HE HZ
  generalize packB l W = out at HE ⊢
  generalize ho : (if W < widN l then ([] : List UInt8) else out) = out2
  generalize her : (if W < widN l then (8 : Int) else 0) = er
  have HO := Lib.hid ho
  have HER := Lib.hid her
  have HM := Lib.hid hm
  have HU := Lib.hid hu
  obtain ⟨i0, hi, hz0, hz1, hz2⟩ := info_parts Try.infoU8
  clear hm hu hT' hwl ho her
  generalize widN l = v at HO HER HWL
  go_enter Try.func11, Try.ntmps11
  go_wp2_with (first | (at_make; refine Stop.un ?_) | (at_builtin; refine Stop.un ?_) | (with_reducible refine Stop.conv 24 9 ?_) | (with_reducible refine Stop.conv 9 24 ?_))
  refine (HB.out _).mono ?_
  rintro e w1 ⟨rfl, rfl⟩
  go_wp2_with (first | (at_make; refine Stop.un ?_) | (at_builtin; refine Stop.un ?_) | (with_reducible refine Stop.conv 24 9 ?_) | (with_reducible refine Stop.conv 9 24 ?_))
  refine Stop.mk (wpList_make_full _ rfl _ _ 24 rfl w.heap.size 5 i0 (.int .u8 0) 1 Try.underlying24 hi hz0 hz1 _ _ _ _ n rfl rfl rfl rfl (by rw [hz2]; omega) (by unfold maxLen; omega) (Nat.le_refl _) ?_)
  intro w7 o7 g7
  have b7 : Below w.heap.size w w7 := (Below.refl _ _).grown g7 (Nat.le_refl _) (fun _ h => by cases h)
  have k7 := own_at o7
  rw [show (madeCells (Value.int .u8 0).cells (n * 1)).toList = bcells (List.replicate n 0) from by simp [bcells, Value.cells, toList_madeCells_one]] at k7
  generalize List.replicate n (0 : UInt8) = bs0 at HZ k7
  clear o7 g7 hz2 hz1 hz0 hi i0
  go_wp2_with (first | (at_make; refine Stop.un ?_) | (at_builtin; refine Stop.un ?_) | (with_reducible refine Stop.conv 24 9 ?_) | (with_reducible refine Stop.conv 9 24 ?_))
  go_loopw [9, 10] (fun a i wr => ∃ (j : Nat) (bs : List UInt8), j ≤ m ∧ a = .int .i64 ((j * W : Nat) : Int) ∧ i = .int .i64 (j : Int) ∧ Below w.heap.size w wr ∧ At wr w.heap.size (bcells bs).toArray 5 ∧ Hid (Bt bs n (j * W) F) ∧ Hid (∀ x ∈ l.take j, x < 2 ^ W)) (fun _ i _ => m - (intOf i).toNat)
  case atStart => exact ⟨0, bs0, Nat.zero_le _, by rw [Nat.zero_mul]; rfl, rfl, b7, k7, by rw [Nat.zero_mul]; exact HZ, Lib.hid (by simp)⟩
  case round =>
    clear HZ b7 k7
    obtain ⟨i, bs, hi, rfl, rfl, b1, z, HBt, HAL⟩ := hrel
    obtain ⟨wo, rfl⟩ : ∃ wo : World, wo = wr := ⟨_, rfl⟩
    by_cases hlt : i < m
    · have hil : i < l.length := by have := HM.out; omega
      have hTI := HTI.out i hlt
      have hSU := HSU.out i
      have HFi : Hid (∀ d y, d < W → y = l[i] / 2 ^ d → F (i * W + d) = y.testBit 0) := Lib.hid (fun d y h1 h2 => by rw [h2, Nat.testBit_div_two_pow]; exact HF.out i _ hil (by omega) |>.trans (by rw [Nat.zero_add]))
      have hx := HU.out l[i] (List.getElem_mem _)
      have HST : Hid (l[i] < 2 ^ W → ∀ x ∈ l.take (i + 1), x < 2 ^ W) := Lib.hid (fun h x hx => by
        rw [List.take_succ_eq_append_getElem hil] at hx
        rcases List.mem_append.1 hx with hx | hx
        · exact HAL.out x hx
        · rw [List.mem_singleton.1 hx]; exact h)
      have HBAD : Hid (¬ l[i] < 2 ^ W → W < v) := Lib.hid (fun h => by
        apply Nat.lt_of_not_le
        intro hh
        exact h (HWL.out.1 hh _ (List.getElem_mem _)))
      obtain ⟨b, o, rfl⟩ := hc.addr (by rw [ucells_length]; omega)
      have x0 : wo.cell? ⟨b, o + i, none⟩ = some (.int .u64 ((l[i] : Nat) : Int)) := (hc.mono b1 (Nat.le_refl _)).at (by simp [ucells, hil])
      generalize l[i] = X at HFi hx x0 HST HBAD
      have HBI := Lib.hid (bitLen_iff X W hx)
      have HBC := Lib.hid (fun w => rbitsN_any X w hx)
      generalize i * W = A at HBt HFi hTI hSU ⊢
      have HX0 : Hid (X = X / 2 ^ 0) := Lib.hid (by simp)
      have hX := Lib.hid hx
      have hb64 := bitLen_le64 X
      generalize Lib.bitLen X = L at HBI HBC hb64
      by_cases hLW : L ≤ W
      · have HAL2 : Hid (∀ x ∈ l.take (i + 1), x < 2 ^ W) := Lib.hid (HST.out (HBI.out.1 hLW))
        clear hx HST HBAD HAL HBI
        go_wp2_with (first | (at_make; refine Stop.un ?_) | (at_builtin; refine Stop.un ?_) | (with_reducible refine Stop.conv 24 9 ?_) | (with_reducible refine Stop.conv 9 24 ?_))
        refine (HBC.out _).mono ?_
        rintro e w1 ⟨rfl, rfl⟩
        go_wp2_with (first | (at_make; refine Stop.un ?_) | (at_builtin; refine Stop.un ?_) | (with_reducible refine Stop.conv 24 9 ?_) | (with_reducible refine Stop.conv 9 24 ?_))
        go_loopw [9, 11, 12] (fun a x i wr => ∃ (d y : Nat) (bs : List UInt8), d ≤ W ∧ y < 18446744073709551616 ∧ a = .int .i64 ((A + d : Nat) : Int) ∧ x = .int .u64 (y : Int) ∧ i = .int .i64 (d : Int) ∧ Below w.heap.size w wr ∧ At wr w.heap.size (bcells bs).toArray 5 ∧ Hid (Bt bs n (A + d) F) ∧ Hid (y = X / 2 ^ d)) (fun _ _ i _ => W - (intOf i).toNat)
        case atStart => exact ⟨0, X, bs, Nat.zero_le _, hX.out, rfl, rfl, rfl, b1, z, HBt, HX0⟩
        case round =>
          clear b1 z HBt x0 HX0
          obtain ⟨d, y, bs, hd, hy, rfl, rfl, rfl, b1, z, HBt, HY⟩ := hrel
          by_cases hd2 : d < W
          · have hFk := HFi.out d y hd2 HY.out
            rw [Nat.testBit_zero] at hFk
            have HFk := Lib.hid hFk
            have hkT : A + d + 1 ≤ T := by omega
            have HKD : Hid (A + (d + 1) = A + d + 1) := Lib.hid (by omega)
            have HYD : Hid (y / 2 = X / 2 ^ (d + 1)) := Lib.hid (by rw [HY.out, Nat.div_div_eq_div_mul, Nat.pow_succ])
            clear hFk HY
            generalize A + d = k at HBt HFk hkT HKD ⊢
            have hk8 := HT8.out k (by omega)
            have hbl := HLEN.out _ _ _ HBt.out
            have hkl : k / 8 < bs.length := by omega
            have hp8 : ((k : Int) / 8).toNat = k / 8 := by omega
            have hlow := HBt.out.low hkl
            rcases (show y % 2 = 1 ∨ y % 2 = 0 by omega) with hy1 | hy1
            · have hF1 : ∀ j, j < 1 → F (k + j) = (1 : Nat).testBit j := by
                intro j hj
                obtain rfl : j = 0 := by omega
                rw [Nat.add_zero, HFk.out, hy1]
                rfl
              have HBt2 := Lib.hid (HBt.out.many (m := 1) (x := 1) (by omega) hk8 hF1)
              clear hF1
              clear HBt
              go_upto_region 16 with fail
              have x1 : wr.cell? ⟨w.heap.size, k / 8, none⟩ = some (.int .u8 ((bs[k / 8]).toNat : Int)) := z.cell (k / 8) (by simp [bcells, hkl])
              have zl := z.lt
              refine mix_startE 14 rfl (by kernel_rfl) ?_
              intro xq hxq
              replace x1 := Ext.cell hxq x1
              replace b1 := Below.next b1 hxq
              replace z := At.mono z hxq
              clear hxq
              refine mix_quiet Keeps.ext 0 rfl (by kernel_rfl) rfl ?_
              intro ι U hne hU
              go_big_quiet_op
              clear hU hne U ι
              show wpAnyM _ _ _ _ _ _ _ _ _
              refine mix_quiet Keeps.ext 1 rfl (by kernel_rfl) rfl ?_
              intro ι U hne hU
              go_big_quiet_op
              clear hU hne U ι
              show wpAnyM _ _ _ _ _ _ _ _ _
              refine mix_quiet Keeps.ext 2 rfl (by kernel_rfl) rfl ?_
              intro ι U hne hU
              go_big_quiet_op
              clear hU hne U ι
              show wpAnyM _ _ _ _ _ _ _ _ _
              refine mix_quiet Keeps.ext 3 rfl (by kernel_rfl) rfl ?_
              intro ι U hne hU
              go_big_quiet_op
              clear hU hne U ι
              show wpAnyM _ _ _ _ _ _ _ _ _
              refine mix_quiet Keeps.ext 4 rfl (by kernel_rfl) rfl ?_
              intro ι U hne hU
              go_big_quiet_op
              clear hU hne U ι
              show wpAnyM _ _ _ _ _ _ _ _ _
              refine mix_quiet Keeps.ext 5 rfl (by kernel_rfl) rfl ?_
              intro ι U hne hU
              go_big_quiet_op
              clear hU hne U ι
              show wpAnyM _ _ _ _ _ _ _ _ _
              refine mix_quiet Keeps.ext 6 rfl (by kernel_rfl) rfl ?_
              intro ι U hne hU
              go_big_quiet_op
              clear hU hne U ι
              show wpAnyM _ _ _ _ _ _ _ _ _
              refine mix_quiet Keeps.ext 7 rfl (by kernel_rfl) rfl ?_
              intro ι U hne hU
              have hcw0 := fun ii => (hU ii).cell x1
              go_big_quiet_op
              clear hU hne hcw0 U ι
              show wpAnyM _ _ _ _ _ _ _ _ _
              refine mix_quiet Keeps.ext 8 rfl (by kernel_rfl) rfl ?_
              intro ι U hne hU
              go_big_quiet_op
              clear hU hne U ι
              show wpAnyM _ _ _ _ _ _ _ _ _
              refine mix_quiet Keeps.ext 9 rfl (by kernel_rfl) rfl ?_
              intro ι U hne hU
              go_big_quiet_op
              clear hU hne U ι
              show wpAnyM _ _ _ _ _ _ _ _ _
              refine mix_quiet Keeps.ext 10 rfl (by kernel_rfl) rfl ?_
              intro ι U hne hU
              go_big_quiet_op
              clear hU hne U ι
              show wpAnyM _ _ _ _ _ _ _ _ _
              refine mix_quiet Keeps.ext 11 rfl (by kernel_rfl) rfl ?_
              intro ι U hne hU
              go_big_quiet_op
              clear hU hne U ι
              show wpAnyM _ _ _ _ _ _ _ _ _
              refine mix_quiet Keeps.ext 12 rfl (by kernel_rfl) rfl ?_
              intro ι U hne hU
              go_big_quiet_op
              clear hU hne U ι
              show wpAnyM _ _ _ _ _ _ _ _ _
              refine mix_last 13 rfl (by kernel_rfl) (by kernel_rfl) rfl ?_
              have f1 := z.free (k / 8)
              go_wp2_with (first | (at_make; refine Stop.un ?_) | (at_builtin; refine Stop.un ?_) | (with_reducible refine Stop.conv 24 9 ?_) | (with_reducible refine Stop.conv 9 24 ?_))
              refine MixLast.mk ?_
              refine mix_end (by kernel_rfl) ?_
              have z2 := z.put (y := 1) (s := 1) hkl (by omega) (add_piece (bs[k / 8]).toNat k (bs[k / 8]).toNat_lt hlow)
              have b2 := b1.setCell (p := ⟨w.heap.size, k / 8, none⟩) (Nat.le_refl _) (.int .u8 (((bs[k / 8]).toNat + 2 ^ (k % 8) : Int) % 256))
              clear z b1 x1 f1
              generalize xq.setCell ⟨w.heap.size, k / 8, none⟩ _ = w9 at z2 b2 ⊢
              go_wp2_with (first | (at_make; refine Stop.un ?_) | (at_builtin; refine Stop.un ?_) | (with_reducible refine Stop.conv 24 9 ?_) | (with_reducible refine Stop.conv 9 24 ?_))
              go_roundw
              case rel => exact ⟨d + 1, y / 2, _, by omega, by omega, by rw [HKD.out]; go_num, by go_num, by go_num, b2, z2, by rw [HKD.out]; exact HBt2, HYD⟩
              case measure => simp [intOf]; omega
            · have HBt2 := Lib.hid (HBt.out.skip (by rw [HFk.out, hy1]; rfl))
              clear HBt
              go_wp2_with (first | (at_make; refine Stop.un ?_) | (at_builtin; refine Stop.un ?_) | (with_reducible refine Stop.conv 24 9 ?_) | (with_reducible refine Stop.conv 9 24 ?_))
              go_roundw
              case rel => exact ⟨d + 1, y / 2, bs, by omega, by omega, by rw [HKD.out]; go_num, by go_num, by go_num, b1, z, by rw [HKD.out]; exact HBt2, HYD⟩
              case measure => simp [intOf]; omega
          · have hdW : d = W := by omega
            subst hdW
            go_wp2_with (first | (at_make; refine Stop.un ?_) | (at_builtin; refine Stop.un ?_) | (with_reducible refine Stop.conv 24 9 ?_) | (with_reducible refine Stop.conv 9 24 ?_))
            go_roundw
            case rel => exact ⟨i + 1, bs, by omega, by rw [hSU], by go_num, b1, z, by rw [hSU]; exact HBt, HAL2⟩
            case measure => simp [intOf]; omega
      · have hv := HBAD.out (fun h => hLW (HBI.out.2 h))
        have h8 := HER.out
        have h9 := HO.out
        rw [if_pos hv] at h8 h9
        have H8 := Lib.hid h8
        have H9 := Lib.hid h9
        clear hx HST HBAD HAL HBI h8 h9 HER HO hv
        go_wp2_with (first | (at_make; refine Stop.un ?_) | (at_builtin; refine Stop.un ?_) | (with_reducible refine Stop.conv 24 9 ?_) | (with_reducible refine Stop.conv 9 24 ?_))
        refine (HBC.out _).mono ?_
        rintro e w1 ⟨rfl, rfl⟩
        go_wp2_with (first | (at_make; refine Stop.un ?_) | (at_builtin; refine Stop.un ?_) | (with_reducible refine Stop.conv 24 9 ?_) | (with_reducible refine Stop.conv 9 24 ?_))
        go_ret2
        rw [← H8.out, ← H9.out]
        exact ⟨none, 0, 0, rfl, rfl, Own.nil _ _ b1⟩
    · have him : i = m := by omega
      have hal := HAL.out
      rw [List.take_of_length_le (by have := HM.out; omega)] at hal
      have hv : ¬ W < v := by have := HWL.out.2 hal; omega
      have h8 := HER.out
      have h9 := HO.out
      rw [if_neg hv] at h8 h9
      have H8 := Lib.hid h8
      have H9 := Lib.hid h9
      clear h8 h9 HER HO hv hal HAL
      subst him
      go_wp2_with (first | (at_make; refine Stop.un ?_) | (at_builtin; refine Stop.un ?_) | (with_reducible refine Stop.conv 24 9 ?_) | (with_reducible refine Stop.conv 9 24 ?_))
      go_ret2
      have HEq := HE.out bs _ HTW.out HBt.out
      rw [← H9.out, ← H8.out, ← HEq]
      exact ⟨_, n, n, HLEN.out _ _ _ HBt.out, rfl, z.own b1 (Nat.le_refl _) n (by rw [bcells_length]; exact HLEN.out _ _ _ HBt.out) (by unfold maxLen; omega)⟩
theorem rpack_any (ao : Option Addr) (m cap : Nat) (width : Int) (l : List Nat) (w : World) (hc : Cs w ao (ucells l)) (hm : l.length = m) (hlc : m ≤ cap) (hu : ∀ x ∈ l, x < 2 ^ 64) :
    Calls Try.prog 11 #[.slice ao m cap, .int .i64 width] w (RetP w (packR l width) (packE l width)) := by
  by_cases h : bytE m width = 0
  · obtain ⟨h1, h2, h3, h4⟩ := bytE_range _ _ h
    obtain ⟨W, rfl⟩ := Int.eq_ofNat_of_zero_le h2
    have hk := rpack_ok ao m cap W l w hc hm hlc (by omega) (by omega) hu
    by_cases hr : W < widN l
    · rw [packR_range l W (by rw [hm]; exact h) hr, packE_range l W (by rw [hm]; exact h) hr]
      rwa [if_pos hr, if_pos hr] at hk
    · rw [packR_ok l W (by rw [hm]; exact h) hr, packE_ok l W (by rw [hm]; exact h) hr]
      rwa [if_neg hr, if_neg hr] at hk
  · rw [packR_bad l width (by rw [hm]; exact h), packE_bad l width (by rw [hm]; exact h), hm]
    exact rpack_bad ao m cap width w h
end Go.Proofs.Ytcjnehlbkjpgbaa
