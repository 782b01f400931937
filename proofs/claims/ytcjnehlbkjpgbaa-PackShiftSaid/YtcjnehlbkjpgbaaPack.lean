/- Pack. -/
import Derived.Test.YtcjnehlbkjpgbaaPackW
import Derived.Test.YtcjnehlbkjpgbaaMix2
import Derived.Deep.DeepCutAuto
import Derived.Deep.CutBlock
import Derived.Laws.BitsAllLaws
set_option linter.unusedVariables false
set_option linter.unusedSimpArgs false
namespace Go.Proofs.Ytcjnehlbkjpgbaa
open Go.RowKit
theorem own_at {w : World} {base e size n g : Nat} {xs : List Value} (h : w.ownsRow base e size (.slice (some ⟨g, 0, none⟩) n n) n xs) : At w g xs.toArray e := by
  rcases h.2 with ⟨h', _⟩ | ⟨g', cap', cur, h', _, hg, _, _, hcs, htake⟩
  · simp at h'
  · simp only [Value.slice.injEq, Option.some.injEq, Addr.mk.injEq, and_true, true_and] at h'
    obtain ⟨rfl, rfl⟩ := h'
    have e1 : cur.toList = xs := by rw [← htake]; exact (List.take_of_length_le (by simp [hcs])).symm
    unfold At
    rw [hg, ← e1]
theorem At.own {w0 w : World} {g : Nat} {xs : List Value} {e : TypeId} (h : At w g xs.toArray e) (hb : Below w0.heap.size w0 w) (hg : w0.heap.size ≤ g) (n : Nat) (hn : xs.length = n) (hm : n ≤ maxLen) : Own w0 w e 1 (.slice (some ⟨g, 0, none⟩) n n) n xs :=
  ⟨⟨by omega, .inr ⟨g, n, xs.toArray, rfl, hg, h, Nat.le_refl _, hm, by simp [hn], List.take_of_length_le (by simp [hn])⟩⟩, hb⟩
theorem mask_eq (s : Nat) (hs : s ≤ 64) : IntKind.u64.wrap (IntKind.u64.wrap ((2 : Int) ^ s) - 1) = ((2 ^ s - 1 : Nat) : Int) := by
  have e : ((2 : Int) ^ s) = ((2 ^ s : Nat) : Int) := by rw [Int.natCast_pow]; rfl
  have h1 : 1 ≤ 2 ^ s := Nat.two_pow_pos s
  have h2 : 2 ^ s ≤ 2 ^ 64 := Nat.pow_le_pow_right (by decide) hs
  rw [e, IntKind.wrap_u64, IntKind.wrap_u64]
  generalize 2 ^ s = a at h1 h2
  omega
theorem piece_eq (c y s k : Nat) (hc : c < 256) (hy : y < 18446744073709551616) (hk : k % 8 + s ≤ 8) :
    bits .or .u8 (c : Int) (bits .and .u64 (y : Int) (IntKind.u64.wrap (IntKind.u64.wrap (2 ^ s) - 1)) % 256 * 2 ^ (k % 8) % 256) = ((c ||| (y % 2 ^ s) * 2 ^ (k % 8) : Nat) : Int) := by
  have h1 : 2 ^ s ≤ 2 ^ 8 := Nat.pow_le_pow_right (by decide) (by omega)
  have h2 := small_shift (k := k) (m := s) (y := y % 2 ^ s) (Nat.mod_lt _ (Nat.two_pow_pos _)) hk
  have h3 : y % 2 ^ s < 2 ^ s := Nat.mod_lt _ (Nat.two_pow_pos _)
  rw [mask_eq s (by omega), bits_and_u64_nat _ _ hy (by omega), Nat.and_two_pow_sub_one_eq_mod]
  generalize y % 2 ^ s = a at h2 h3 ⊢
  have e : ((a : Int) % 256 * 2 ^ (k % 8) % 256) = ((a * 2 ^ (k % 8) : Nat) : Int) := by
    have ha : (a : Int) % 256 = a := Int.emod_eq_of_lt (by omega) (by omega)
    rw [ha]
    have e2 : ((2 : Int) ^ (k % 8)) = ((2 ^ (k % 8) : Nat) : Int) := by rw [Int.natCast_pow]; rfl
    rw [e2, ← Int.natCast_mul]
    exact Int.emod_eq_of_lt (by omega) (by omega)
  rw [e, u8_or_nat _ _ hc h2]
theorem At.put {w : World} {h k y s : Nat} {bs : List UInt8} {t : TypeId} (z : At w h (bcells bs).toArray t) (hkl : k / 8 < bs.length) (hk : k % 8 + s ≤ 8) {x : Int} (hx : x = (((bs[k / 8]).toNat ||| (y % 2 ^ s) * 2 ^ (k % 8) : Nat) : Int)) :
    At (w.setCell ⟨h, k / 8, none⟩ (.int .u8 x)) h (bcells (putM bs k (y % 2 ^ s))).toArray t := by
  subst hx
  have h2 := small_shift (k := k) (m := s) (y := y % 2 ^ s) (Nat.mod_lt _ (Nat.two_pow_pos _)) hk
  have hc : (bs[k / 8]).toNat < 256 := (bs[k / 8]).toNat_lt
  have hx : (bs[k / 8]).toNat ||| (y % 2 ^ s) * 2 ^ (k % 8) < 2 ^ 8 := Nat.or_lt_two_pow (by omega) (by omega)
  have hs := z.set (k / 8) (.int .u8 (((bs[k / 8]).toNat ||| (y % 2 ^ s) * 2 ^ (k % 8) : Nat) : Int))
  have e : (bcells bs).toArray.setIfInBounds (k / 8) (.int .u8 (((bs[k / 8]).toNat ||| (y % 2 ^ s) * 2 ^ (k % 8) : Nat) : Int)) = (bcells (putM bs k (y % 2 ^ s))).toArray := by
    simp [bcells, putM, List.getD_eq_getElem?_getD, hkl, List.map_set, -Nat.or_eq_zero_iff]
    rw [Nat.mod_eq_of_lt h2]
  rw [e] at hs
  exact hs
theorem bytN_ok (m W : Nat) (hm : m ≤ 4096) (hW : W ≤ 64) : bytN m W = (((m * W + 7) / 8 : Nat) : Int) := by
  unfold bytN; rw [if_neg (by omega), if_neg (by omega)]; simp
theorem bytE_ok (m W : Nat) (hm : m ≤ 4096) (hW : W ≤ 64) : bytE m W = 0 := by
  unfold bytE; rw [if_neg (by omega), if_neg (by omega)]
theorem bytE_bad {m W : Int} (h : bytE m W ≠ 0) : bytN m W = 0 := by
  unfold bytE at h; unfold bytN; split
  · rfl
  · next h1 => rw [if_neg h1] at h; split
               · rfl
               · next h2 => rw [if_neg h2] at h; omega
theorem bytE_range (m W : Int) (h : bytE m W = 0) : 0 ≤ m ∧ 0 ≤ W ∧ W ≤ 64 ∧ m ≤ 4096 := by
  unfold bytE at h; split at h
  · omega
  · split at h <;> omega
set_option maxHeartbeats 1000000 in
theorem pack_bad (ao : Option Addr) (m cap : Nat) (width : Int) (w : World) (h : bytE m width ≠ 0) :
    Calls Try.prog 10 #[.slice ao m cap, .int .i64 width] w (RetP w [] (bytE m width)) := by
  have HB := Lib.hid (fun w => bytes_any m width w)
  rw [bytE_bad h] at HB
  generalize bytE m width = er at h HB ⊢
  have he : (er != 0) = true := by simpa using h
  go_enter Try.func10, Try.ntmps10
  go_wp2_with (first | (at_make; refine Stop.un ?_) | (at_builtin; refine Stop.un ?_) | (with_reducible refine Stop.conv 24 9 ?_) | (with_reducible refine Stop.conv 9 24 ?_))
  refine (HB.out _).mono ?_
  rintro e w1 ⟨rfl, rfl⟩
  go_wp2_with (first | (at_make; refine Stop.un ?_) | (at_builtin; refine Stop.un ?_) | (with_reducible refine Stop.conv 24 9 ?_) | (with_reducible refine Stop.conv 9 24 ?_))
  go_ret2
  exact ⟨none, 0, 0, rfl, rfl, Own.nil _ _ (Below.refl _ _)⟩
set_option maxHeartbeats 1000000 in
theorem pack_range (ao : Option Addr) (m cap W : Nat) (l : List Nat) (w : World) (hc : Cs w ao (ucells l)) (hm : l.length = m) (hlc : m ≤ cap) (hl : m ≤ 4096) (hW : W ≤ 64) (hu : ∀ x ∈ l, x < 2 ^ 64) (hr : W < widN l) :
    Calls Try.prog 10 #[.slice ao m cap, .int .i64 (W : Int)] w (RetP w [] 8) := by
  have HB := Lib.hid (fun w => bytes_any m W w)
  rw [bytE_ok m W hl hW, bytN_ok m W hl hW] at HB
  generalize (m * W + 7) / 8 = n at HB
  have HWD := Lib.hid (width_any ao m cap l w hc hm hlc (by unfold maxLen; omega) hu)
  generalize widN l = v at hr HWD
  clear hc hm hu
  go_enter Try.func10, Try.ntmps10
  go_wp2_with (first | (at_make; refine Stop.un ?_) | (at_builtin; refine Stop.un ?_) | (with_reducible refine Stop.conv 24 9 ?_) | (with_reducible refine Stop.conv 9 24 ?_))
  refine (HB.out _).mono ?_
  rintro e w1 ⟨rfl, rfl⟩
  go_wp2_with (first | (at_make; refine Stop.un ?_) | (at_builtin; refine Stop.un ?_) | (with_reducible refine Stop.conv 24 9 ?_) | (with_reducible refine Stop.conv 9 24 ?_))
  refine HWD.out.mono ?_
  rintro e w1 ⟨rfl, rfl⟩
  go_wp2_with (first | (at_make; refine Stop.un ?_) | (at_builtin; refine Stop.un ?_) | (with_reducible refine Stop.conv 24 9 ?_) | (with_reducible refine Stop.conv 9 24 ?_))
  go_ret2
  exact ⟨none, 0, 0, rfl, rfl, Own.nil _ _ (Below.refl _ _)⟩
set_option maxHeartbeats 4000000 in
theorem pack_ok (ao : Option Addr) (m cap W : Nat) (l : List Nat) (w : World) (hc : Cs w ao (ucells l)) (hm : l.length = m) (hlc : m ≤ cap) (hl : m ≤ 4096) (hW : W ≤ 64) (hu : ∀ x ∈ l, x < 2 ^ 64) (hr : widN l ≤ W) :
    Calls Try.prog 10 #[.slice ao m cap, .int .i64 (W : Int)] w (RetP w (packB l W) 0) := by
  have HB := Lib.hid (fun w => bytes_any m W w)
  rw [bytE_ok m W hl hW, bytN_ok m W hl hW] at HB
  have hT : m * W ≤ 4096 * 64 := Nat.mul_le_mul hl hW
  have hn2 : (m * W + 7) / 8 ≤ 40000 := by omega
  have HWD := Lib.hid (width_any ao m cap l w hc hm hlc (by unfold maxLen; omega) hu)
  generalize widN l = v at hr HWD
  have HF := Lib.hid (fun i j hi hj => fW_at l W i j hi hj)
  have HE : Hid (∀ bs k, k = m * W → Bt bs ((m * W + 7) / 8) k (fW l W) → bs = packB l W) := Lib.hid (fun bs k hk h => h.packed (by rw [hm]) (by rw [hm]; exact hk))
  have HTI : Hid (∀ i, i < m → i * W + W ≤ m * W) := Lib.hid (fun i hi => by have : (i + 1) * W ≤ m * W := Nat.mul_le_mul_right _ hi
                                                                             rw [Nat.add_mul] at this; omega)
  have HSU : Hid (∀ i, (i + 1) * W = i * W + W) := Lib.hid (fun i => by rw [Nat.add_mul]; omega)
  have HLEN : Hid (∀ bs k f, Bt bs ((m * W + 7) / 8) k f → bs.length = (m * W + 7) / 8) := Lib.hid (fun bs k f h => h.1)
  generalize hT' : m * W = T at HB hn2 HTI HE HLEN hT
  have HT8 : Hid (∀ p, p < T → p / 8 < (T + 7) / 8) := Lib.hid (fun p hp => by omega)
  have HTW := Lib.hid hT'
  have HZ : Hid (Bt (List.replicate ((T + 7) / 8) 0) ((T + 7) / 8) 0 (fW l W)) := Lib.hid (Bt.zero _ _)
  generalize (T + 7) / 8 = n at HB hn2 HE HLEN HT8 HZ
  generalize fW l W = F at HF HE HZ
  generalize packB l W = out at HE ⊢
  have HM := Lib.hid hm
  have HU := Lib.hid hu
  obtain ⟨i0, hi, hz0, hz1, hz2⟩ := info_parts Try.infoU8
  clear hm hu hT'
  go_enter Try.func10, Try.ntmps10
  go_wp2_with (first | (at_make; refine Stop.un ?_) | (at_builtin; refine Stop.un ?_) | (with_reducible refine Stop.conv 24 9 ?_) | (with_reducible refine Stop.conv 9 24 ?_))
  refine (HB.out _).mono ?_
  rintro e w1 ⟨rfl, rfl⟩
  go_wp2_with (first | (at_make; refine Stop.un ?_) | (at_builtin; refine Stop.un ?_) | (with_reducible refine Stop.conv 24 9 ?_) | (with_reducible refine Stop.conv 9 24 ?_))
  refine HWD.out.mono ?_
  rintro e w1 ⟨rfl, rfl⟩
  go_wp2_with (first | (at_make; refine Stop.un ?_) | (at_builtin; refine Stop.un ?_) | (with_reducible refine Stop.conv 24 9 ?_) | (with_reducible refine Stop.conv 9 24 ?_))
  refine Stop.mk (wpList_make_full _ rfl _ _ 24 rfl w.heap.size 5 i0 (.int .u8 0) 1 Try.underlying24 hi hz0 hz1 _ _ _ _ n rfl rfl rfl rfl (by rw [hz2]; omega) (by unfold maxLen; omega) (Nat.le_refl _) ?_)
  intro w7 o7 g7
  have b7 : Below w.heap.size w w7 := (Below.refl _ _).grown g7 (Nat.le_refl _) (fun _ h => by cases h)
  have k7 := own_at o7
  rw [show (madeCells (Value.int .u8 0).cells (n * 1)).toList = bcells (List.replicate n 0) from by simp [bcells, Value.cells, toList_madeCells_one]] at k7
  generalize List.replicate n (0 : UInt8) = bs0 at HZ k7
  clear o7 g7 hz2 hz1 hz0 hi i0
  go_wp2_with (first | (at_make; refine Stop.un ?_) | (at_builtin; refine Stop.un ?_) | (with_reducible refine Stop.conv 24 9 ?_) | (with_reducible refine Stop.conv 9 24 ?_))
  go_loopw [9, 35] (fun a i wr => ∃ (j : Nat) (bs : List UInt8), j ≤ m ∧ a = .int .i64 ((j * W : Nat) : Int) ∧ i = .int .i64 (j : Int) ∧ Below w.heap.size w wr ∧ At wr w.heap.size (bcells bs).toArray 5 ∧ Hid (Bt bs n (j * W) F)) (fun _ i _ => m - (intOf i).toNat)
  case atStart => exact ⟨0, bs0, Nat.zero_le _, by rw [Nat.zero_mul]; rfl, rfl, b7, k7, by rw [Nat.zero_mul]; exact HZ⟩
  case round =>
    clear HZ b7 k7
    obtain ⟨i, bs, hi, rfl, rfl, b1, z, HBt⟩ := hrel
    obtain ⟨wo, rfl⟩ : ∃ wo : World, wo = wr := ⟨_, rfl⟩
    by_cases hlt : i < m
    · have hil : i < l.length := by have := HM.out; omega
      have hTI := HTI.out i hlt
      have hSU := HSU.out i
      have HFi : Hid (∀ d y j, d + j < W → y = l[i] / 2 ^ d → F (i * W + d + j) = y.testBit j) := Lib.hid (fun d y j h1 h2 => by rw [h2, Nat.testBit_div_two_pow, Nat.add_assoc]; exact HF.out i _ hil (by omega) |>.trans (by rw [Nat.add_comm]))
      have hx := HU.out l[i] (List.getElem_mem _)
      obtain ⟨b, o, rfl⟩ := hc.addr (by rw [ucells_length]; omega)
      have x0 : wo.cell? ⟨b, o + i, none⟩ = some (.int .u64 ((l[i] : Nat) : Int)) := (hc.mono b1 (Nat.le_refl _)).at (by simp [ucells, hil])
      generalize l[i] = X at HFi hx x0
      generalize i * W = A at HBt HFi hTI hSU ⊢
      have HX0 : Hid (X = X / 2 ^ 0) := Lib.hid (by simp)
      have hX := Lib.hid hx
      clear hx
      go_wp2_with (first | (at_make; refine Stop.un ?_) | (at_builtin; refine Stop.un ?_) | (with_reducible refine Stop.conv 24 9 ?_) | (with_reducible refine Stop.conv 9 24 ?_))
      go_loopw [9, 11, 12] (fun a x i wr => ∃ (d y : Nat) (bs : List UInt8), d ≤ W ∧ y < 18446744073709551616 ∧ a = .int .i64 ((A + d : Nat) : Int) ∧ x = .int .u64 (y : Int) ∧ i = .int .i64 ((W - d : Nat) : Int) ∧ Below w.heap.size w wr ∧ At wr w.heap.size (bcells bs).toArray 5 ∧ Hid (Bt bs n (A + d) F) ∧ Hid (y = X / 2 ^ d)) (fun _ _ i _ => (intOf i).toNat)
      case atStart => exact ⟨0, X, bs, Nat.zero_le _, hX.out, rfl, rfl, rfl, b1, z, HBt, HX0⟩
      case round =>
        clear b1 z HBt x0 HX0
        obtain ⟨d, y, bs, hd, hy, rfl, rfl, rfl, b1, z, HBt, HY⟩ := hrel
        by_cases hd2 : d < W
        · obtain ⟨q, hq⟩ : ∃ q, W - d = q := ⟨_, rfl⟩
          obtain ⟨s, hs⟩ : ∃ s, min (8 - (A + d) % 8) q = s := ⟨_, rfl⟩
          have HFj : Hid (∀ j, j < q → F (A + d + j) = y.testBit j) := Lib.hid (fun j hj => HFi.out d y j (by omega) HY.out)
          have hkT : A + d + q ≤ T := by omega
          have HKD : Hid (A + (d + s) = A + d + s) := Lib.hid (by omega)
          have HQD : Hid (W - (d + s) = q - s) := Lib.hid (by omega)
          have hds : s ≤ q → d + s ≤ W := by omega
          have HYD : Hid (y / 2 ^ s = X / 2 ^ (d + s)) := Lib.hid (by rw [HY.out, Nat.div_div_eq_div_mul, Nat.pow_add])
          generalize A + d = k at HBt HFj hkT hs HKD ⊢
          have hk8 := HT8.out k (by omega)
          have HMN : Hid (min (8 - (k : Int) % 8) (q : Int) = (s : Int)) := Lib.hid (by omega)
          have hs1 : 1 ≤ s := by omega
          have hs2 : k % 8 + s ≤ 8 := by omega
          have hs3 : s ≤ q := by omega
          have hq1 : 1 ≤ q := by omega
          have hds := hds hs3
          have hq64 : q ≤ 64 := by omega
          rw [hq]
          have HQ := Lib.hid hq
          have hbl := HLEN.out _ _ _ HBt.out
          have hkl : k / 8 < bs.length := by omega
          have HBt2 := Lib.hid (HBt.out.many (m := s) (x := y) hs2 hk8 (fun j hj => HFj.out j (by omega)))
          have hp8 : ((k : Int) / 8).toNat = k / 8 := by omega
          clear hq hs HBt HFj HY
          go_upto_region 15 with fail
          rw [HMN.out]
          have x1 : wr.cell? ⟨w.heap.size, k / 8, none⟩ = some (.int .u8 ((bs[k / 8]).toNat : Int)) := z.cell (k / 8) (by simp [bcells, hkl])
          have zl := z.lt
          refine mix_startE 16 rfl (by kernel_rfl) ?_
          intro xq hxq
          replace x1 := Ext.cell hxq x1
          replace b1 := Below.next b1 hxq
          replace z := At.mono z hxq
          clear hxq
          refine mix_quiet Keeps.ext 0 rfl (by kernel_rfl) rfl ?_
          intro ι U hne hU
          go_big_quiet_op
          clear hU hne U ι
          show wpAnyM _ _ _ _ _ _ _ _ _
          refine mix_quiet Keeps.ext 1 rfl (by kernel_rfl) rfl ?_
          intro ι U hne hU
          go_big_quiet_op
          clear hU hne U ι
          show wpAnyM _ _ _ _ _ _ _ _ _
          refine mix_quiet Keeps.ext 2 rfl (by kernel_rfl) rfl ?_
          intro ι U hne hU
          go_big_quiet_op
          clear hU hne U ι
          show wpAnyM _ _ _ _ _ _ _ _ _
          refine mix_quiet Keeps.ext 3 rfl (by kernel_rfl) rfl ?_
          intro ι U hne hU
          go_big_quiet_op
          clear hU hne U ι
          show wpAnyM _ _ _ _ _ _ _ _ _
          refine mix_quiet Keeps.ext 4 rfl (by kernel_rfl) rfl ?_
          intro ι U hne hU
          have hcw0 := fun ii => (hU ii).cell x1
          go_big_quiet_op
          clear hU hne hcw0 U ι
          show wpAnyM _ _ _ _ _ _ _ _ _
          refine mix_quiet Keeps.ext 5 rfl (by kernel_rfl) rfl ?_
          intro ι U hne hU
          go_big_quiet_op
          clear hU hne U ι
          show wpAnyM _ _ _ _ _ _ _ _ _
          refine mix_quiet Keeps.ext 6 rfl (by kernel_rfl) rfl ?_
          intro ι U hne hU
          go_big_quiet_op
          clear hU hne U ι
          show wpAnyM _ _ _ _ _ _ _ _ _
          refine mix_quiet Keeps.ext 7 rfl (by kernel_rfl) rfl ?_
          intro ι U hne hU
          go_big_quiet_op
          clear hU hne U ι
          show wpAnyM _ _ _ _ _ _ _ _ _
          refine mix_quiet Keeps.ext 8 rfl (by kernel_rfl) rfl ?_
          intro ι U hne hU
          go_big_quiet_op
          clear hU hne U ι
          show wpAnyM _ _ _ _ _ _ _ _ _
          refine mix_quiet Keeps.ext 9 rfl (by kernel_rfl) rfl ?_
          intro ι U hne hU
          go_big_quiet_op
          clear hU hne U ι
          show wpAnyM _ _ _ _ _ _ _ _ _
          refine mix_quiet Keeps.ext 10 rfl (by kernel_rfl) rfl ?_
          intro ι U hne hU
          go_big_quiet_op
          clear hU hne U ι
          show wpAnyM _ _ _ _ _ _ _ _ _
          refine mix_quiet Keeps.ext 11 rfl (by kernel_rfl) rfl ?_
          intro ι U hne hU
          go_big_quiet_op
          clear hU hne U ι
          show wpAnyM _ _ _ _ _ _ _ _ _
          refine mix_quiet Keeps.ext 12 rfl (by kernel_rfl) rfl ?_
          intro ι U hne hU
          go_big_quiet_op
          clear hU hne U ι
          show wpAnyM _ _ _ _ _ _ _ _ _
          refine mix_quiet Keeps.ext 13 rfl (by kernel_rfl) rfl ?_
          intro ι U hne hU
          go_big_quiet_op
          clear hU hne U ι
          show wpAnyM _ _ _ _ _ _ _ _ _
          refine mix_quiet Keeps.ext 14 rfl (by kernel_rfl) rfl ?_
          intro ι U hne hU
          go_big_quiet_op
          clear hU hne U ι
          show wpAnyM _ _ _ _ _ _ _ _ _
          refine mix_last 15 rfl (by kernel_rfl) (by kernel_rfl) rfl ?_
          have f1 := z.free (k / 8)
          go_wp2_with (first | (at_make; refine Stop.un ?_) | (at_builtin; refine Stop.un ?_) | (with_reducible refine Stop.conv 24 9 ?_) | (with_reducible refine Stop.conv 9 24 ?_))
          refine MixLast.mk ?_
          refine mix_end (by kernel_rfl) ?_
          have z2 := z.put (y := y) (s := s) hkl hs2 (piece_eq (bs[k / 8]).toNat y s k (bs[k / 8]).toNat_lt hy hs2)
          have b2 := b1.setCell (p := ⟨w.heap.size, k / 8, none⟩) (Nat.le_refl _) (.int .u8 (bits .or .u8 ((bs[k / 8]).toNat : Int) (bits .and .u64 (y : Int) (IntKind.u64.wrap (IntKind.u64.wrap (2 ^ s) - 1)) % 256 * 2 ^ (k % 8) % 256)))
          clear z b1 x1 f1
          generalize xq.setCell ⟨w.heap.size, k / 8, none⟩ _ = w9 at z2 b2 ⊢
          have hy2 : y / 2 ^ s < 18446744073709551616 := Nat.lt_of_le_of_lt (Nat.div_le_self _ _) hy
          have HYI : Hid ((y : Int) / 2 ^ s = ((y / 2 ^ s : Nat) : Int)) := Lib.hid (by rw [Int.natCast_ediv, Int.natCast_pow]; rfl)
          go_wp2_with (first | (at_make; refine Stop.un ?_) | (at_builtin; refine Stop.un ?_) | (with_reducible refine Stop.conv 24 9 ?_) | (with_reducible refine Stop.conv 9 24 ?_))
          go_roundw
          case rel => exact ⟨d + s, y / 2 ^ s, putM bs k (y % 2 ^ s), hds, hy2, by rw [HKD.out]; go_num, by rw [HYI.out], by rw [HQD.out]; go_num, b2, z2, by rw [HKD.out]; exact HBt2, HYD⟩
          case measure => simp [intOf]; omega
        · have hdW : d = W := by omega
          subst hdW
          go_wp2_with (first | (at_make; refine Stop.un ?_) | (at_builtin; refine Stop.un ?_) | (with_reducible refine Stop.conv 24 9 ?_) | (with_reducible refine Stop.conv 9 24 ?_))
          go_roundw
          case rel => exact ⟨i + 1, bs, by omega, by rw [hSU], by go_num, b1, z, by rw [hSU]; exact HBt⟩
          case measure => simp [intOf]; omega
    · have him : i = m := by omega
      subst him
      go_wp2_with (first | (at_make; refine Stop.un ?_) | (at_builtin; refine Stop.un ?_) | (with_reducible refine Stop.conv 24 9 ?_) | (with_reducible refine Stop.conv 9 24 ?_))
      go_ret2
      have HEq := HE.out bs _ HTW.out HBt.out
      rw [← HEq]
      exact ⟨_, n, n, HLEN.out _ _ _ HBt.out, rfl, z.own b1 (Nat.le_refl _) n (by rw [bcells_length]; exact HLEN.out _ _ _ HBt.out) (by unfold maxLen; omega)⟩
end Go.Proofs.Ytcjnehlbkjpgbaa
