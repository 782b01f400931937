/- Unpack. -/
import Derived.Test.YtcjnehlbkjpgbaaRPack
set_option linter.unusedVariables false
set_option linter.unusedSimpArgs false
namespace Go.Proofs.Ytcjnehlbkjpgbaa
open Go.RowKit
theorem Try.infoU64 : (Try.prog.info? 47).map (fun i => (i.zero, i.size, i.bytes)) = some (some (.int .u64 0), 1, 8) := by kernel_rfl
/-- Of m numbers i are taken, and of the next one g bits. -/
def Up (b : List UInt8) (W : Nat) (xs : List Nat) (m i g : Nat) : Prop := xs.length = m ∧ ∀ j, j < m → xs[j]? = some (if j < i then nof (fun k => tst b (j * W + k)) W else if j = i then nof (fun k => tst b (j * W + k)) g else 0)
theorem Up.zero (b : List UInt8) (W m : Nat) : Up b W (List.replicate m 0) m 0 0 := by
  refine ⟨by simp, fun j hj => ?_⟩
  rw [List.getElem?_replicate, if_pos hj, if_neg (by omega)]
  split <;> rfl
theorem Up.set {b : List UInt8} {W m i g g' : Nat} {xs : List Nat} (h : Up b W xs m i g) (hi : i < m) : Up b W (xs.set i (nof (fun k => tst b (i * W + k)) g')) m i g' := by
  refine ⟨by rw [List.length_set]; exact h.1, fun j hj => ?_⟩
  by_cases e : j = i
  · subst e
    rw [List.getElem?_set_self (by rw [h.1]; exact hj), if_neg (by omega), if_pos rfl]
  · rw [List.getElem?_set_ne (Ne.symm e), h.2 j hj, if_neg e, if_neg e]
theorem Up.next {b : List UInt8} {W m i : Nat} {xs : List Nat} (h : Up b W xs m i W) : Up b W xs m (i + 1) 0 := by
  refine ⟨h.1, fun j hj => ?_⟩
  rw [h.2 j hj]
  congr 1
  by_cases e : j = i
  · subst e; simp
  · by_cases e2 : j < i
    · rw [if_pos e2, if_pos (by omega)]
    · rw [if_neg e2, if_neg e, if_neg (by omega)]
      split <;> rfl
theorem Up.end {b : List UInt8} {W m : Nat} {xs : List Nat} (h : Up b W xs m m 0) : xs = unpN b m W := by
  apply List.ext_getElem? 
  intro j
  by_cases hj : j < m
  · rw [h.2 j hj, if_pos hj, unpN_get _ _ _ _ hj]
  · rw [List.getElem?_eq_none (by rw [h.1]; omega), List.getElem?_eq_none (by rw [unpN_length]; omega)]
theorem Up.get {b : List UInt8} {W m i g : Nat} {xs : List Nat} (h : Up b W xs m i g) (hi : i < m) (hx : i < xs.length) : xs[i] = nof (fun k => tst b (i * W + k)) g := by
  have := h.2 i hi
  rw [List.getElem?_eq_getElem hx, if_neg (by omega), if_pos rfl] at this
  exact Option.some.inj this
theorem nof_step {f : Nat → Bool} {g s c q : Nat} (h : ∀ j, j < s → f (g + j) = c.testBit (q + j)) : nof f g ||| (c / 2 ^ q % 2 ^ s) * 2 ^ g = nof f (g + s) := by
  apply Nat.eq_of_testBit_eq
  intro k
  rw [Nat.testBit_or, nof_bit, nof_bit, Nat.mul_comm, Nat.testBit_two_pow_mul, Nat.testBit_mod_two_pow, Nat.testBit_div_two_pow, Nat.add_comm (k - g) q]
  by_cases h1 : k < g
  · have h2 : k < g + s := by omega
    have h3 : ¬ g ≤ k := by omega
    simp [h1, h2, h3]
  · have h3 : g ≤ k := by omega
    by_cases h2 : k < g + s
    · have h4 : k - g < s := by omega
      have h5 := h (k - g) h4
      rw [show g + (k - g) = k by omega] at h5
      simp [h1, h2, h3, h4, h5]
    · have h4 : ¬ k - g < s := by omega
      simp [h1, h2, h4]
theorem tst_in (b : List UInt8) (k j : Nat) (h : k % 8 + j < 8) (hk : k / 8 < b.length) : tst b (k + j) = (b[k / 8]).toNat.testBit (k % 8 + j) := by
  rw [← tst_byte b (k / 8) (k % 8 + j) hk h]
  congr 1
  omega
theorem clean_iff (b : List UInt8) (T n : Nat) (hb : b.length = n) (hn : n = (T + 7) / 8) : (∀ p, T ≤ p → tst b p = false) ↔ (T % 8 = 0 ∨ (b.getD (n - 1) 0).toNat / 2 ^ (T % 8) = 0) := by
  constructor
  · intro h
    by_cases h0 : T % 8 = 0
    · exact .inl h0
    · refine .inr (Nat.eq_of_testBit_eq fun j => ?_)
      rw [Nat.testBit_div_two_pow, Nat.zero_testBit, Nat.add_comm j]
      rcases Nat.lt_or_ge (T % 8 + j) 8 with h1 | h1
      · have h2 := h (T + j) (by omega)
        unfold tst at h2
        rwa [show (T + j) / 8 = n - 1 by omega, show (T + j) % 8 = T % 8 + j by omega] at h2
      · exact Nat.testBit_lt_two_pow (Nat.lt_of_lt_of_le (b.getD (n - 1) 0).toNat_lt (Nat.pow_le_pow_right (by decide) h1))
  · intro h p hp
    rcases h with h | h
    · exact tst_out _ _ (by omega)
    · by_cases h1 : p / 8 < n
      · by_cases h0 : T % 8 = 0
        · omega
        · have h2 : ((b.getD (n - 1) 0).toNat / 2 ^ (T % 8)).testBit (p % 8 - T % 8) = false := by rw [h, Nat.zero_testBit]
          rw [Nat.testBit_div_two_pow, show (p % 8 - T % 8) + T % 8 = p % 8 by omega, show n - 1 = p / 8 by omega] at h2
          exact h2
      · exact tst_out _ _ (by omega)
theorem upiece_eq (c v s g k : Nat) (hc : c < 256) (hv : v < 18446744073709551616) (hs : s ≤ 64) (hlt : v ||| (c / 2 ^ (k % 8) % 2 ^ s) * 2 ^ g < 18446744073709551616) :
    bits .or .u64 (v : Int) (IntKind.u64.wrap (bits .and .u64 (IntKind.u64.wrap ((c : Int) / 2 ^ (k % 8))) (IntKind.u64.wrap (IntKind.u64.wrap (2 ^ s) - 1)) * 2 ^ g)) = ((v ||| (c / 2 ^ (k % 8) % 2 ^ s) * 2 ^ g : Nat) : Int) := by
  have h1 : 2 ^ s ≤ 2 ^ 64 := Nat.pow_le_pow_right (by decide) hs
  have h0 : 1 ≤ 2 ^ s := Nat.two_pow_pos s
  have hd : c / 2 ^ (k % 8) ≤ c := Nat.div_le_self _ _
  have h2 : (c / 2 ^ (k % 8) % 2 ^ s) * 2 ^ g < 18446744073709551616 := Nat.lt_of_le_of_lt Nat.right_le_or hlt
  have e1 : ((c : Int) / 2 ^ (k % 8)) = ((c / 2 ^ (k % 8) : Nat) : Int) := by rw [Int.natCast_ediv, Int.natCast_pow]; rfl
  have e2 : ((2 : Int) ^ g) = ((2 ^ g : Nat) : Int) := by rw [Int.natCast_pow]; rfl
  rw [mask_eq s hs, e1, e2]
  rw [show IntKind.u64.wrap ((c / 2 ^ (k % 8) : Nat) : Int) = ((c / 2 ^ (k % 8) : Nat) : Int) by rw [IntKind.wrap_u64]; generalize c / 2 ^ (k % 8) = d at hd; omega]
  rw [bits_and_u64_nat _ _ (by omega) (by omega), Nat.and_two_pow_sub_one_eq_mod]
  generalize c / 2 ^ (k % 8) % 2 ^ s = a at h2 ⊢
  have e3 : ((a : Int) * ((2 ^ g : Nat) : Int)) = ((a * 2 ^ g : Nat) : Int) := by simp
  rw [e3, show IntKind.u64.wrap ((a * 2 ^ g : Nat) : Int) = ((a * 2 ^ g : Nat) : Int) by rw [IntKind.wrap_u64]; omega]
  exact bits_or_u64_nat _ _ hv h2
theorem At.putU {w : World} {h i : Nat} {xs : List Nat} {t : TypeId} (z : At w h (ucells xs).toArray t) (y : Nat) {x : Int} (hx : x = (y : Int)) :
    At (w.setCell ⟨h, i, none⟩ (.int .u64 x)) h (ucells (xs.set i y)).toArray t := by
  subst hx
  have hs := z.set i (.int .u64 (y : Int))
  have e : (ucells xs).toArray.setIfInBounds i (.int .u64 (y : Int)) = (ucells (xs.set i y)).toArray := by simp [ucells, List.map_set]
  rw [e] at hs
  exact hs
set_option maxHeartbeats 1000000 in
theorem unpack_bad (ao : Option Addr) (n cap : Nat) (many width : Int) (w : World) (h : bytE many width ≠ 0) :
    Calls Try.prog 17 #[.slice ao n cap, .int .i64 many, .int .i64 width] w (RetU w [] (bytE many width)) := by
  have HB := Lib.hid (fun w => bytes_any many width w)
  rw [bytE_bad h] at HB
  generalize bytE many width = er at h HB ⊢
  have he : (er != 0) = true := by simpa using h
  go_enter Try.func17, Try.ntmps17
  go_wp2_with (first | (at_make; refine Stop.un ?_) | (at_builtin; refine Stop.un ?_) | (with_reducible refine Stop.conv 24 9 ?_) | (with_reducible refine Stop.conv 9 24 ?_))
  refine (HB.out _).mono ?_
  rintro e w1 ⟨rfl, rfl⟩
  go_wp2_with (first | (at_make; refine Stop.un ?_) | (at_builtin; refine Stop.un ?_) | (with_reducible refine Stop.conv 24 9 ?_) | (with_reducible refine Stop.conv 9 24 ?_))
  go_ret2
  exact ⟨none, 0, 0, rfl, rfl, Own.nil _ _ (Below.refl _ _)⟩
set_option maxHeartbeats 1000000 in
theorem unpack_len (ao : Option Addr) (n cap : Nat) (many width : Int) (w : World) (h : bytE many width = 0) (hn : (n : Int) ≠ bytN many width) :
    Calls Try.prog 17 #[.slice ao n cap, .int .i64 many, .int .i64 width] w (RetU w [] 6) := by
  have HB := Lib.hid (fun w => bytes_any many width w)
  rw [h] at HB
  generalize bytN many width = k at hn HB ⊢
  have he : ((n : Int) != k) = true := by simpa using hn
  clear h
  go_enter Try.func17, Try.ntmps17
  go_wp2_with (first | (at_make; refine Stop.un ?_) | (at_builtin; refine Stop.un ?_) | (with_reducible refine Stop.conv 24 9 ?_) | (with_reducible refine Stop.conv 9 24 ?_))
  refine (HB.out _).mono ?_
  rintro e w1 ⟨rfl, rfl⟩
  go_wp2_with (first | (at_make; refine Stop.un ?_) | (at_builtin; refine Stop.un ?_) | (with_reducible refine Stop.conv 24 9 ?_) | (with_reducible refine Stop.conv 9 24 ?_))
  go_ret2
  exact ⟨none, 0, 0, rfl, rfl, Own.nil _ _ (Below.refl _ _)⟩
set_option maxHeartbeats 4000000 in
set_option maxRecDepth 100000 in
theorem unpack_ok (ao : Option Addr) (n cap m W : Nat) (bs : List UInt8) (w : World) (hc : Cs w ao (bcells bs)) (hb : bs.length = n) (hlc : n ≤ cap) (hn : n = (m * W + 7) / 8) (hl : m ≤ 4096) (hW : W ≤ 64) :
    Calls Try.prog 17 #[.slice ao n cap, .int .i64 (m : Int), .int .i64 (W : Int)] w (RetU w (if packB (unpN bs m W) W = bs then unpN bs m W else []) (if packB (unpN bs m W) W = bs then 0 else 6)) := by
  have HB := Lib.hid (fun w => bytes_any m W w)
  rw [bytE_ok m W hl hW, bytN_ok m W hl hW, ← hn] at HB
  have hT : m * W ≤ 4096 * 64 := Nat.mul_le_mul hl hW
  have hn2 : n ≤ 40000 := by omega
  have hcl := (pack_unp_iff bs m W (by rw [hb, hn])).trans (clean_iff bs (m * W) n hb hn)
  have HTI : Hid (∀ i, i < m → i * W + W ≤ m * W) := Lib.hid (fun i hi => by have : (i + 1) * W ≤ m * W := Nat.mul_le_mul_right _ hi
                                                                             rw [Nat.add_mul] at this; omega)
  have HSU : Hid (∀ i, (i + 1) * W = i * W + W) := Lib.hid (fun i => by rw [Nat.add_mul]; omega)
  have HEND : Hid (∀ xs, Up bs W xs m m 0 → xs = unpN bs m W) := Lib.hid (fun xs h => h.end)
  generalize hT' : m * W = T at hn HTI hT hcl
  have HT8 : Hid (∀ p, p < T → p / 8 < n) := Lib.hid (fun p hp => by omega)
  have HTW := Lib.hid hT'
  have hTn : 0 < T % 8 → n - 1 < n ∧ 1 ≤ n := by omega
  generalize ho : (if packB (unpN bs m W) W = bs then unpN bs m W else []) = out
  generalize her : (if packB (unpN bs m W) W = bs then (0 : Int) else 6) = er
  generalize unpN bs m W = un at ho her hcl HEND
  have HCL := Lib.hid hcl
  have HO := Lib.hid ho
  have HER := Lib.hid her
  have HN := Lib.hid hn
  have HB2 := Lib.hid hb
  clear hcl ho her hb hT' hn
  have HZ : Hid (Up bs W (List.replicate m 0) m 0 0) := Lib.hid (Up.zero _ _ _)
  obtain ⟨i0, hi, hz0, hz1, hz2⟩ := info_parts Try.infoU64
  go_enter Try.func17, Try.ntmps17
  go_wp2_with (first | (at_make; refine Stop.un ?_) | (at_builtin; refine Stop.un ?_) | (with_reducible refine Stop.conv 24 9 ?_) | (with_reducible refine Stop.conv 9 24 ?_))
  refine (HB.out _).mono ?_
  rintro e w1 ⟨rfl, rfl⟩
  go_wp2_with (first | (at_make; refine Stop.un ?_) | (at_builtin; refine Stop.un ?_) | (with_reducible refine Stop.conv 24 9 ?_) | (with_reducible refine Stop.conv 9 24 ?_))
  refine Stop.mk (wpList_make_full _ rfl _ _ 22 rfl w.heap.size 47 i0 (.int .u64 0) 1 Try.underlying22 hi hz0 hz1 _ _ _ _ m rfl rfl rfl rfl (by rw [hz2]; omega) (by unfold maxLen; omega) (Nat.le_refl _) ?_)
  intro w7 o7 g7
  have b7 : Below w.heap.size w w7 := (Below.refl _ _).grown g7 (Nat.le_refl _) (fun _ h => by cases h)
  have k7 := own_at o7
  rw [show (madeCells (Value.int .u64 0).cells (m * 1)).toList = ucells (List.replicate m 0) from by simp [ucells, Value.cells, toList_madeCells_one]] at k7
  generalize List.replicate m (0 : Nat) = xs0 at HZ k7
  clear o7 g7 hz2 hz1 hz0 hi i0
  go_wp2_with (first | (at_make; refine Stop.un ?_) | (at_builtin; refine Stop.un ?_) | (with_reducible refine Stop.conv 24 9 ?_) | (with_reducible refine Stop.conv 9 24 ?_))
  go_loopw [11, 35] (fun a i wr => ∃ (j : Nat) (xs : List Nat), j ≤ m ∧ a = .int .i64 ((j * W : Nat) : Int) ∧ i = .int .i64 (j : Int) ∧ Below w.heap.size w wr ∧ At wr w.heap.size (ucells xs).toArray 47 ∧ Hid (Up bs W xs m j 0)) (fun _ i _ => m - (intOf i).toNat)
  case atStart => exact ⟨0, xs0, Nat.zero_le _, by rw [Nat.zero_mul]; rfl, rfl, b7, k7, HZ⟩
  case round =>
    clear HZ b7 k7
    obtain ⟨i, xs, hi, rfl, rfl, b1, z, HUP⟩ := hrel
    obtain ⟨wo, rfl⟩ : ∃ wo : World, wo = wr := ⟨_, rfl⟩
    by_cases hlt : i < m
    · have hTI := HTI.out i hlt
      have hSU := HSU.out i
      have HNS : Hid (∀ g s k, k = i * W + g → k % 8 + s ≤ 8 → (hk : k / 8 < bs.length) → nof (fun k => tst bs (i * W + k)) g ||| ((bs[k / 8]).toNat / 2 ^ (k % 8) % 2 ^ s) * 2 ^ g = nof (fun k => tst bs (i * W + k)) (g + s)) := Lib.hid (fun g s k h1 h2 hk => nof_step (fun j hj => by
        subst h1
        show tst bs (i * W + (g + j)) = _
        rw [← Nat.add_assoc]
        exact tst_in bs _ _ (by omega) hk))
      have HUS : Hid (∀ xs g, Up bs W xs m i g → ∀ g', Up bs W (xs.set i (nof (fun k => tst bs (i * W + k)) g')) m i g') := Lib.hid (fun xs g h g' => h.set hlt)
      have HUG : Hid (∀ xs g, Up bs W xs m i g → (hx : i < xs.length) → xs[i] = nof (fun k => tst bs (i * W + k)) g) := Lib.hid (fun xs g h hx => h.get hlt hx)
      have HNL : Hid (∀ g, nof (fun k => tst bs (i * W + k)) g < 2 ^ g) := Lib.hid (fun g => nof_lt _ g)
      have HUL : Hid (∀ xs g, Up bs W xs m i g → xs.length = m) := Lib.hid (fun xs g h => h.1)
      generalize nof (fun k => tst bs (i * W + k)) = N at HNS HUS HUG HNL
      generalize i * W = A at HNS hTI hSU ⊢
      go_wp2_with (first | (at_make; refine Stop.un ?_) | (at_builtin; refine Stop.un ?_) | (with_reducible refine Stop.conv 24 9 ?_) | (with_reducible refine Stop.conv 9 24 ?_))
      go_loopw [11, 13] (fun a x wr => ∃ (g : Nat) (xs : List Nat), g ≤ W ∧ a = .int .i64 ((A + g : Nat) : Int) ∧ x = .int .i64 (g : Int) ∧ Below w.heap.size w wr ∧ At wr w.heap.size (ucells xs).toArray 47 ∧ Hid (Up bs W xs m i g)) (fun _ i _ => W - (intOf i).toNat)
      case atStart => exact ⟨0, xs, Nat.zero_le _, rfl, rfl, b1, z, HUP⟩
      case round =>
        clear b1 z HUP
        obtain ⟨g, xs, hg, rfl, rfl, b1, z, HUP⟩ := hrel
        by_cases hd2 : g < W
        · obtain ⟨q, hq⟩ : ∃ q, W - g = q := ⟨_, rfl⟩
          obtain ⟨s, hs⟩ : ∃ s, min (8 - (A + g) % 8) q = s := ⟨_, rfl⟩
          obtain ⟨k, hk⟩ : ∃ k, A + g = k := ⟨_, rfl⟩
          have hkT : A + g + q ≤ T := by omega
          have HKD : Hid (A + (g + s) = k + s) := Lib.hid (by omega)
          have hds : s ≤ q → g + s ≤ W := by omega
          rw [hk] at hkT hs ⊢
          have hk8 := HT8.out k (by omega)
          have hkl : k / 8 < bs.length := by have := HB2.out; omega
          have HMN : Hid (min (8 - (k : Int) % 8) ((W : Int) - (g : Int)) = (s : Int)) := Lib.hid (by omega)
          have hs1 : 1 ≤ s := by omega
          have hs2 : k % 8 + s ≤ 8 := by omega
          have hds := hds (by omega)
          have HNS2 := Lib.hid (HNS.out g s k hk.symm hs2 hkl)
          have hxl : i < xs.length := by have := HUL.out _ _ HUP.out; omega
          have hxi := HUG.out _ _ HUP.out hxl
          have hxlt := HNL.out g
          have hgs := HNL.out (g + s)
          have HUP2 := Lib.hid (HUS.out _ _ HUP.out (g + s))
          have hg64 : g ≤ 64 := by omega
          have HHK := Lib.hid hk
          have hp8 : ((k : Int) / 8).toNat = k / 8 := by omega
          have x2 : wr.cell? ⟨w.heap.size, i, none⟩ = some (.int .u64 ((N g : Nat) : Int)) := by rw [← hxi]; exact z.cell i (by simp [ucells, hxl])
          obtain ⟨b, o, rfl⟩ := hc.addr (by rw [bcells_length]; omega)
          have x1 : wr.cell? ⟨b, o + k / 8, none⟩ = some (.int .u8 ((bs[k / 8]).toNat : Int)) := (hc.mono b1 (Nat.le_refl _)).at (bcells_get bs _ hkl)
          have hcl := (bs[k / 8]).toNat_lt
          generalize (bs[k / 8]).toNat = c at HNS2 x1 hcl
          generalize N g = v at HNS2 hxlt x2
          generalize N (g + s) = v2 at HNS2 HUP2 hgs
          clear hq hs hk HUP hxi
          go_upto_region 15 with fail
          rw [HMN.out]
          have zl := z.lt
          refine mix_startE 21 rfl (by kernel_rfl) ?_
          intro xq hxq
          replace x1 := Ext.cell hxq x1
          replace x2 := Ext.cell hxq x2
          replace b1 := Below.next b1 hxq
          replace z := At.mono z hxq
          clear hxq
          refine mix_quiet Keeps.ext 0 rfl (by kernel_rfl) rfl ?_
          intro ι U hne hU
          go_big_quiet_op
          clear hU hne U ι
          show wpAnyM _ _ _ _ _ _ _ _ _
          refine mix_quiet Keeps.ext 1 rfl (by kernel_rfl) rfl ?_
          intro ι U hne hU
          go_big_quiet_op
          clear hU hne U ι
          show wpAnyM _ _ _ _ _ _ _ _ _
          refine mix_quiet Keeps.ext 2 rfl (by kernel_rfl) rfl ?_
          intro ι U hne hU
          go_big_quiet_op
          clear hU hne U ι
          show wpAnyM _ _ _ _ _ _ _ _ _
          refine mix_quiet Keeps.ext 3 rfl (by kernel_rfl) rfl ?_
          intro ι U hne hU
          have hcw0 := fun ii => (hU ii).cell x1
          have hcw1 := fun ii => (hU ii).cell x2
          go_big_quiet_op
          clear hU hne hcw0 hcw1 U ι
          show wpAnyM _ _ _ _ _ _ _ _ _
          refine mix_quiet Keeps.ext 4 rfl (by kernel_rfl) rfl ?_
          intro ι U hne hU
          go_big_quiet_op
          clear hU hne U ι
          show wpAnyM _ _ _ _ _ _ _ _ _
          refine mix_quiet Keeps.ext 5 rfl (by kernel_rfl) rfl ?_
          intro ι U hne hU
          go_big_quiet_op
          clear hU hne U ι
          show wpAnyM _ _ _ _ _ _ _ _ _
          refine mix_quiet Keeps.ext 6 rfl (by kernel_rfl) rfl ?_
          intro ι U hne hU
          go_big_quiet_op
          clear hU hne U ι
          show wpAnyM _ _ _ _ _ _ _ _ _
          refine mix_quiet Keeps.ext 7 rfl (by kernel_rfl) rfl ?_
          intro ι U hne hU
          go_big_quiet_op
          clear hU hne U ι
          show wpAnyM _ _ _ _ _ _ _ _ _
          refine mix_quiet Keeps.ext 8 rfl (by kernel_rfl) rfl ?_
          intro ι U hne hU
          have hcw0 := fun ii => (hU ii).cell x1
          have hcw1 := fun ii => (hU ii).cell x2
          go_big_quiet_op
          clear hU hne hcw0 hcw1 U ι
          show wpAnyM _ _ _ _ _ _ _ _ _
          refine mix_quiet Keeps.ext 9 rfl (by kernel_rfl) rfl ?_
          intro ι U hne hU
          go_big_quiet_op
          clear hU hne U ι
          show wpAnyM _ _ _ _ _ _ _ _ _
          refine mix_quiet Keeps.ext 10 rfl (by kernel_rfl) rfl ?_
          intro ι U hne hU
          go_big_quiet_op
          clear hU hne U ι
          show wpAnyM _ _ _ _ _ _ _ _ _
          refine mix_quiet Keeps.ext 11 rfl (by kernel_rfl) rfl ?_
          intro ι U hne hU
          go_big_quiet_op
          clear hU hne U ι
          show wpAnyM _ _ _ _ _ _ _ _ _
          refine mix_quiet Keeps.ext 12 rfl (by kernel_rfl) rfl ?_
          intro ι U hne hU
          go_big_quiet_op
          clear hU hne U ι
          show wpAnyM _ _ _ _ _ _ _ _ _
          refine mix_quiet Keeps.ext 13 rfl (by kernel_rfl) rfl ?_
          intro ι U hne hU
          go_big_quiet_op
          clear hU hne U ι
          show wpAnyM _ _ _ _ _ _ _ _ _
          refine mix_quiet Keeps.ext 14 rfl (by kernel_rfl) rfl ?_
          intro ι U hne hU
          go_big_quiet_op
          clear hU hne U ι
          show wpAnyM _ _ _ _ _ _ _ _ _
          refine mix_quiet Keeps.ext 15 rfl (by kernel_rfl) rfl ?_
          intro ι U hne hU
          go_big_quiet_op
          clear hU hne U ι
          show wpAnyM _ _ _ _ _ _ _ _ _
          refine mix_quiet Keeps.ext 16 rfl (by kernel_rfl) rfl ?_
          intro ι U hne hU
          go_big_quiet_op
          clear hU hne U ι
          show wpAnyM _ _ _ _ _ _ _ _ _
          refine mix_quiet Keeps.ext 17 rfl (by kernel_rfl) rfl ?_
          intro ι U hne hU
          go_big_quiet_op
          clear hU hne U ι
          show wpAnyM _ _ _ _ _ _ _ _ _
          refine mix_quiet Keeps.ext 18 rfl (by kernel_rfl) rfl ?_
          intro ι U hne hU
          go_big_quiet_op
          clear hU hne U ι
          show wpAnyM _ _ _ _ _ _ _ _ _
          refine mix_quiet Keeps.ext 19 rfl (by kernel_rfl) rfl ?_
          intro ι U hne hU
          go_big_quiet_op
          clear hU hne U ι
          show wpAnyM _ _ _ _ _ _ _ _ _
          refine mix_last 20 rfl (by kernel_rfl) (by kernel_rfl) rfl ?_
          have f1 := z.free i
          go_wp2_with (first | (at_make; refine Stop.un ?_) | (at_builtin; refine Stop.un ?_) | (with_reducible refine Stop.conv 24 9 ?_) | (with_reducible refine Stop.conv 9 24 ?_))
          refine MixLast.mk ?_
          refine mix_end (by kernel_rfl) ?_
          have hv64 : v < 18446744073709551616 := Nat.lt_of_lt_of_le hxlt (show 2 ^ g ≤ 2 ^ 64 from Nat.pow_le_pow_right (by decide) hg64)
          have hv2 : v2 < 18446744073709551616 := Nat.lt_of_lt_of_le hgs (show 2 ^ (g + s) ≤ 2 ^ 64 from Nat.pow_le_pow_right (by decide) (by omega))
          have hval := upiece_eq c v s g k hcl hv64 (by omega) (by rw [HNS2.out]; exact hv2)
          rw [HNS2.out] at hval
          have z2 := z.putU (i := i) v2 hval
          have b2 := b1.setCell (p := ⟨w.heap.size, i, none⟩) (Nat.le_refl _) (.int .u64 (bits .or .u64 (v : Int) (IntKind.u64.wrap (bits .and .u64 (IntKind.u64.wrap ((c : Int) / 2 ^ (k % 8))) (IntKind.u64.wrap (IntKind.u64.wrap (2 ^ s) - 1)) * 2 ^ g))))
          clear z b1 x1 x2 f1 hval
          generalize xq.setCell ⟨w.heap.size, i, none⟩ _ = w9 at z2 b2 ⊢
          go_wp2_with (first | (at_make; refine Stop.un ?_) | (at_builtin; refine Stop.un ?_) | (with_reducible refine Stop.conv 24 9 ?_) | (with_reducible refine Stop.conv 9 24 ?_))
          go_roundw
          case rel => exact ⟨g + s, _, hds, by rw [HKD.out]; go_num, by go_num, b2, z2, HUP2⟩
          case measure => simp [intOf]; omega
        · have hdW : g = W := by omega
          subst hdW
          have HUP2 := Lib.hid HUP.out.next
          clear HUP
          go_wp2_with (first | (at_make; refine Stop.un ?_) | (at_builtin; refine Stop.un ?_) | (with_reducible refine Stop.conv 24 9 ?_) | (with_reducible refine Stop.conv 9 24 ?_))
          go_roundw
          case rel => exact ⟨i + 1, xs, by omega, by rw [hSU], by go_num, b1, z, HUP2⟩
          case measure => simp [intOf]; omega
    · have him : i = m := by omega
      subst him
      have hun := HEND.out xs HUP.out
      have hxl : xs.length = i := HUP.out.1
      have HXL := Lib.hid hxl
      have HUN := Lib.hid hun
      have hTW := HTW.out
      have HT2 := Lib.hid hTW
      clear HUP hun hxl
      rw [hTW]
      clear hTW
      by_cases h0 : T % 8 = 0
      · have hok := HCL.out.2 (.inl h0)
        have h8 := HER.out
        have h9 := HO.out
        rw [if_pos hok] at h8 h9
        have H8 := Lib.hid h8
        have H9 := Lib.hid h9
        clear h8 h9 HER HO hok
        go_wp2_with (first | (at_make; refine Stop.un ?_) | (at_builtin; refine Stop.un ?_) | (with_reducible refine Stop.conv 24 9 ?_) | (with_reducible refine Stop.conv 9 24 ?_))
        go_ret2
        rw [← H8.out, ← H9.out, ← HUN.out]
        exact ⟨_, i, i, HXL.out, rfl, z.own b1 (Nat.le_refl _) i (by rw [ucells_length]; exact HXL.out) (by unfold maxLen; omega)⟩
      · obtain ⟨hn1, hn3⟩ := hTn (by omega)
        have hnl : n - 1 < bs.length := by rw [HB2.out]; exact hn1
        obtain ⟨b, o, rfl⟩ := hc.addr (by rw [bcells_length]; omega)
        have x1 : wo.cell? ⟨b, o + (n - 1), none⟩ = some (.int .u8 ((bs[n - 1]).toNat : Int)) := (hc.mono b1 (Nat.le_refl _)).at (bcells_get bs _ hnl)
        have hgd : bs.getD (n - 1) 0 = bs[n - 1] := by simp [List.getD_eq_getElem?_getD, hnl]
        have hcl2 := HCL.out
        rw [hgd] at hcl2
        have hT0 : 0 < T % 8 := by omega
        have hN1 : (((n : Int) - 1)).toNat = n - 1 := by omega
        have HDI : Hid ((((bs[n - 1]).toNat : Int)) / 2 ^ (T % 8) = (((bs[n - 1]).toNat / 2 ^ (T % 8) : Nat) : Int)) := Lib.hid (by rw [Int.natCast_ediv, Int.natCast_pow]; rfl)
        generalize (bs[n - 1]).toNat = c at x1 hcl2 HDI
        by_cases hc0 : c / 2 ^ (T % 8) = 0
        · have hok := hcl2.2 (.inr hc0)
          have h8 := HER.out
          have h9 := HO.out
          rw [if_pos hok] at h8 h9
          have H8 := Lib.hid h8
          have H9 := Lib.hid h9
          have hz : ((c : Int) / 2 ^ (T % 8) != 0) = false := by rw [HDI.out, hc0]; rfl
          clear h8 h9 HER HO hok hcl2 HCL hgd
          go_wp2_with (first | (at_make; refine Stop.un ?_) | (at_builtin; refine Stop.un ?_) | (with_reducible refine Stop.conv 24 9 ?_) | (with_reducible refine Stop.conv 9 24 ?_))
          go_ret2
          rw [← H8.out, ← H9.out, ← HUN.out]
          exact ⟨_, i, i, HXL.out, rfl, z.own b1 (Nat.le_refl _) i (by rw [ucells_length]; exact HXL.out) (by unfold maxLen; omega)⟩
        · have hok : ¬ packB un W = bs := fun h => (hcl2.1 h).elim (fun h => h0 h) hc0
          have h8 := HER.out
          have h9 := HO.out
          rw [if_neg hok] at h8 h9
          have H8 := Lib.hid h8
          have H9 := Lib.hid h9
          have hz : ((c : Int) / 2 ^ (T % 8) != 0) = true := by rw [HDI.out]; generalize c / 2 ^ (T % 8) = z at hc0; simpa using hc0
          clear h8 h9 HER HO hok hcl2 HCL hgd
          go_wp2_with (first | (at_make; refine Stop.un ?_) | (at_builtin; refine Stop.un ?_) | (with_reducible refine Stop.conv 24 9 ?_) | (with_reducible refine Stop.conv 9 24 ?_))
          go_ret2
          rw [← H8.out, ← H9.out]
          exact ⟨none, 0, 0, rfl, rfl, Own.nil _ _ b1⟩
theorem unpE_bad (b : List UInt8) (many width : Int) (h : bytE many width ≠ 0) : unpE b many width = bytE many width := if_pos h
theorem unpE_len (b : List UInt8) (many width : Int) (h : bytE many width = 0) (hn : (b.length : Int) ≠ bytN many width) : unpE b many width = 6 := by unfold unpE; rw [if_neg (by simp [h]), if_pos hn]
theorem unpE_ok (b : List UInt8) (m W : Nat) (h : bytE m W = 0) (hn : (b.length : Int) = bytN m W) : unpE b m W = if packB (unpN b m W) W = b then 0 else 6 := by unfold unpE; rw [if_neg (by simp [h]), if_neg (by simp [hn])]; rfl
theorem unpR_ok (b : List UInt8) (m W : Nat) (h : bytE m W = 0) (hn : (b.length : Int) = bytN m W) : unpR b m W = if packB (unpN b m W) W = b then unpN b m W else [] := by
  unfold unpR; rw [unpE_ok b m W h hn]
  split
  · simp
  · simp
theorem unpR_no (b : List UInt8) (many width : Int) (h : unpE b many width ≠ 0) : unpR b many width = [] := if_neg h
theorem unpack_any (ao : Option Addr) (n cap : Nat) (many width : Int) (bs : List UInt8) (w : World) (hc : Cs w ao (bcells bs)) (hb : bs.length = n) (hlc : n ≤ cap) :
    Calls Try.prog 17 #[.slice ao n cap, .int .i64 many, .int .i64 width] w (RetU w (unpR bs many width) (unpE bs many width)) := by
  by_cases h : bytE many width = 0
  · obtain ⟨h1, h2, h3, h4⟩ := bytE_range _ _ h
    obtain ⟨W, rfl⟩ := Int.eq_ofNat_of_zero_le h2
    obtain ⟨m, rfl⟩ := Int.eq_ofNat_of_zero_le h1
    by_cases hn : (bs.length : Int) = bytN m W
    · rw [unpR_ok bs m W h hn, unpE_ok bs m W h hn]
      exact unpack_ok ao n cap m W bs w hc hb hlc (by rw [bytN_ok m W (by omega) (by omega), hb] at hn; omega) (by omega) (by omega)
    · have e := unpE_len bs m W h hn
      rw [unpR_no _ _ _ (by rw [e]; decide), e]
      exact unpack_len ao n cap m W w h (by rw [← hb]; exact hn)
  · rw [unpR_no _ _ _ (by rw [unpE_bad _ _ _ h]; exact h), unpE_bad _ _ _ h]
    exact unpack_bad ao n cap many width w h
end Go.Proofs.Ytcjnehlbkjpgbaa
