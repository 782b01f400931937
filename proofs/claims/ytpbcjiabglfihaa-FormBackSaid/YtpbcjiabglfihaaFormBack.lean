/- FormBack. -/
import Derived.Test.YtpbcjiabglfihaaLay
import Derived.Test.YtpbcjiabglfihaaMix
import Derived.Test.YtpbcjiabglfihaaRdrT
set_option linter.unusedVariables false
namespace Go.Proofs.Ytpbcjiabglfihaa
open Go.RowKit
/-- A number as it is laid where none is below 0. -/
def un (n : Int) : Nat := (n % 18446744073709551616).toNat
theorem un_lt (n : Int) : un n < 18446744073709551616 := by unfold un; omega
theorem un_wrap (n : Int) : IntKind.u64.wrap n = (un n : Int) := by rw [IntKind.wrap_u64]; unfold un; omega
def encI (l : List Int) : List UInt8 := l.flatMap fun n => intB n ++ numB (un n)
theorem encI_snoc (l : List Int) (n : Int) : encI (l ++ [n]) = encI l ++ intB n ++ numB (un n) := by simp [encI]
theorem encI_cons (n : Int) (l : List Int) : encI (n :: l) = intB n ++ (numB (un n) ++ encI l) := by simp [encI]
theorem encI_len (l : List Int) : (encI l).length ≤ 18 * l.length := by
  induction l with
  | nil => simp [encI]
  | cons n l ih =>
    rw [encI_cons, List.length_append, List.length_append, List.length_cons]
    have := (numB_length (Lib.zigzag n)).2
    have := (numB_length (un n)).2
    unfold intB; omega
/-- The first bytes of a text. -/
def cut (s : ByteArray) : ByteArray := s.extract 0 (min (s.size : Int) 1024).toNat
theorem cut_size (s : ByteArray) : (cut s).size ≤ 1024 := by unfold cut; rw [ByteArray.size_extract]; omega
def encT (l : List ByteArray) : List UInt8 := l.flatMap fun s => textB (cut s).data.toList
theorem encT_snoc (l : List ByteArray) (s : ByteArray) : encT (l ++ [s]) = encT l ++ textB (cut s).data.toList := by simp [encT]
theorem encT_cons (s : ByteArray) (l : List ByteArray) : encT (s :: l) = textB (cut s).data.toList ++ encT l := by simp [encT]
theorem encT_len (l : List ByteArray) : (encT l).length ≤ 1033 * l.length := by
  induction l with
  | nil => simp [encT]
  | cons s l ih =>
    rw [encT_cons, List.length_append, List.length_cons]
    have := (numB_length (cut s).data.toList.length).2
    have := cut_size s
    have := data_length (cut s)
    unfold textB; rw [List.length_append]; omega
theorem rd_numB (n : Nat) (hn : n < 18446744073709551616) (r : List UInt8) : rdN (numB n ++ r) = n ∧ rdRest (numB n ++ r) = r ∧ rdBad (numB n ++ r) = false := rd_of_some (tnum_numB n hn r)
theorem rd_textB (t : List UInt8) (ht : t.length ≤ 1024) (r : List UInt8) : rdT (textB t ++ r) = t ∧ rdTRest (textB t ++ r) = r ∧ rdTBad (textB t ++ r) = false := by
  have e : textB t ++ r = numB t.length ++ (t ++ r) := by simp [textB]
  rw [e]
  obtain ⟨e1, e2, e3⟩ := rd_numB t.length (by omega) (t ++ r)
  have e4 : rdText (numB t.length ++ (t ++ r)) = some t := by
    unfold rdText
    rw [e1, e2, if_neg (by rw [List.length_append]; omega)]
    simp
  unfold rdT rdTRest rdTBad
  rw [e4, e1, e2, e3]
  simp
set_option maxHeartbeats 4000000 in
set_option maxRecDepth 100000 in
theorem formBack_any (ao : Option Addr) (m cap : Nat) (zs0 : List Int) (sa : Option Addr) (ns caps : Nat) (ss0 : List ByteArray) (w : World) (hc : Cs w ao (zs0.map (Value.int .i64))) (hm : zs0.length = m) (hcap : m ≤ cap) (hcm : cap ≤ maxLen)
    (hwf : ∀ n ∈ zs0, -9223372036854775808 ≤ n ∧ n ≤ 9223372036854775807)
    (hcs : Cs w sa (ss0.map Value.string)) (hms : ss0.length = ns) (hcaps : ns ≤ caps) (hcms : caps ≤ maxLen) :
    Calls Try.prog 8 #[.slice ao m cap, .slice sa ns caps] w (fun e w' => e = .returned (.bool true) ∧ Below w.heap.size w w') := by
  have hx := hc.take (min m 200)
  rw [← List.map_take] at hx
  have hxl : (zs0.take (min m 200)).length = min m 200 := by rw [List.length_take, hm]; omega
  have hk : min m 200 ≤ 200 := Nat.min_le_right _ _
  have hkc : min m 200 ≤ cap := by omega
  have hwf' : ∀ n ∈ zs0.take (min m 200), -9223372036854775808 ≤ n ∧ n ≤ 9223372036854775807 := fun n hn => hwf n (List.mem_of_mem_take hn)
  have hm1 : (min (m : Int) 200).toNat = min m 200 := by omega
  generalize zs0.take (min m 200) = zs at hx hxl hwf'
  generalize min m 200 = p at hx hxl hk hkc hm1
  have hy := hcs.take (min ns 50)
  rw [← List.map_take] at hy
  have hyl : (ss0.take (min ns 50)).length = min ns 50 := by rw [List.length_take, hms]; omega
  have hk2 : min ns 50 ≤ 50 := Nat.min_le_right _ _
  have hkc2 : min ns 50 ≤ caps := by omega
  have hm2 : (min (ns : Int) 50).toNat = min ns 50 := by omega
  generalize ss0.take (min ns 50) = ts at hy hyl
  generalize min ns 50 = q at hy hyl hk2 hkc2 hm2
  have HX := Lib.hid hxl
  have HY := Lib.hid hyl
  have HW := Lib.hid hwf'
  clear hc hm hwf hcs hms hxl hyl hwf' zs0 ss0
  unfold maxLen at hcm hcms
  go_enter Try.func8, Try.ntmps8
  go_wp2_with (first | (at_make; refine Stop.un ?_) | (at_builtin; refine Stop.un ?_) | (with_reducible refine Stop.conv 22 9 ?_) | (with_reducible refine Stop.conv 9 22 ?_))
  refine (shown_any _).mono ?_
  rintro e w1 ⟨rfl, b1⟩
  have hw1 : w.heap.size ≤ w1.heap.size := b1.size
  go_wp2_with (first | (at_make; refine Stop.un ?_) | (at_builtin; refine Stop.un ?_) | (with_reducible refine Stop.conv 22 9 ?_) | (with_reducible refine Stop.conv 9 22 ?_))
  go_loopw [6, 26] (fun v c wr => ∃ (j k : Nat) (ab : Option Addr) (cb : Nat), j ≤ p ∧ k ≤ 18 * j ∧ c = .int .i64 (j : Int) ∧ v = .slice ab k cb ∧ OwnB w1 wr (.slice ab k cb) k (encI (zs.take j))) (fun _ c _ => p - (intOf c).toNat)
  case atStart => exact ⟨0, 0, none, 0, by omega, by omega, rfl, rfl, Own.nil _ _ (Below.refl _ _)⟩
  case round =>
    obtain ⟨j, k, ab, cb, hj, hkj, rfl, rfl, hO⟩ := hrel
    by_cases hlt : j < p
    · have hjl : j < zs.length := by have := HX.out; omega
      obtain ⟨b, o, rfl⟩ := hx.addr (by rw [List.length_map]; omega)
      have hxr := hx.mono (b1.next (Own.below hO)) (Nat.le_refl _)
      have hcell := hxr.at (j := j) (u := .int .i64 zs[j]) (by simp [hjl])
      obtain ⟨hn0, hn1⟩ := HW.out zs[j] (List.getElem_mem _)
      have HT := Lib.hid (List.take_succ_eq_append_getElem hjl)
      have hE1 := encI_snoc (zs.take j) zs[j]
      rw [← HT.out] at hE1
      have HE := Lib.hid hE1
      have hlen := encI_len (zs.take (j + 1))
      have hlz := (numB_length (Lib.zigzag zs[j])).2
      have hl1 := Own.length hO
      rw [bcells_length] at hl1
      clear hE1
      generalize zs[j] = n at hcell hn0 hn1 HE hlz
      have HLen := Lib.hid hlen
      have HL1 := Lib.hid hl1
      have hlz' : (intB n).length ≤ 9 := hlz
      clear hlen hl1 hxr HT hlz
      go_wp2_with (first | (at_make; refine Stop.un ?_) | (at_builtin; refine Stop.un ?_) | (with_reducible refine Stop.conv 22 9 ?_) | (with_reducible refine Stop.conv 9 22 ?_))
      refine (int_any ab k cb _ n _ (Own.cs hO) (by have := HL1.out; omega) (by omega) hn0 hn1).mono ?_
      rintro e w2 ⟨a2, k2, c2, h2, rfl, o2⟩
      have hk2' : k2 ≤ k + 9 := by rw [← h2, List.length_append]; have := HL1.out; omega
      have H2 := Lib.hid h2
      have b2 := Own.below hO
      have b12 := b2.next (Own.below o2)
      clear h2 hO b2
      go_wp2_with (first | (at_make; refine Stop.un ?_) | (at_builtin; refine Stop.un ?_) | (with_reducible refine Stop.conv 22 9 ?_) | (with_reducible refine Stop.conv 9 22 ?_))
      rw [un_wrap n]
      refine (num_any a2 k2 c2 _ (un n : Int) _ (Own.cs o2) H2.out (by omega) (by omega) (by have := un_lt n; omega)).mono ?_
      rintro e w3 ⟨a3, k3, c3, h3, rfl, o3⟩
      rw [Int.toNat_natCast, ← HE.out] at h3 o3
      have O3 := Own.up o3 b12
      have H3 := Lib.hid h3
      clear h3 o3 o2 b12
      go_wp2_with (first | (at_make; refine Stop.un ?_) | (at_builtin; refine Stop.un ?_) | (with_reducible refine Stop.conv 22 9 ?_) | (with_reducible refine Stop.conv 9 22 ?_))
      go_roundw
      case rel => exact ⟨j + 1, k3, a3, c3, by omega, by rw [← H3.out]; have := HLen.out; rw [List.length_take] at this; omega, by go_num, rfl, O3⟩
      case measure => simp [intOf]; omega
    · have hge : j = p := by omega
      subst hge
      have hall : zs.take j = zs := List.take_of_length_le (by have := HX.out; omega)
      rw [hall] at hO
      have hlenI := Own.length hO
      rw [bcells_length] at hlenI
      have HLI := Lib.hid hlenI
      clear hall hlt hj hlenI
      go_wp2_with (first | (at_make; refine Stop.un ?_) | (at_builtin; refine Stop.un ?_) | (with_reducible refine Stop.conv 22 9 ?_) | (with_reducible refine Stop.conv 9 22 ?_))
      go_loopw [6, 44] (fun v c wr => ∃ (i k : Nat) (ab : Option Addr) (cb : Nat), i ≤ q ∧ k ≤ 3600 + 1033 * i ∧ c = .int .i64 (i : Int) ∧ v = .slice ab k cb ∧ OwnB w1 wr (.slice ab k cb) k (encI zs ++ encT (ts.take i))) (fun _ c _ => q - (intOf c).toNat)
      case atStart => exact ⟨0, k, ab, cb, by omega, by omega, rfl, rfl, by simpa [encT] using hO⟩
      case round =>
        clear hO
        obtain ⟨i, k', ab', cb', hi, hki, rfl, rfl, hO⟩ := hrel
        by_cases hlt : i < q
        · have hil : i < ts.length := by have := HY.out; omega
          obtain ⟨b, o, rfl⟩ := hy.addr (by rw [List.length_map]; omega)
          have hyr := hy.mono (b1.next (Own.below hO)) (Nat.le_refl _)
          have hcell := hyr.at (j := i) (u := .string ts[i]) (by simp [hil])
          have HT := Lib.hid (List.take_succ_eq_append_getElem hil)
          have hE1 := encT_snoc (ts.take i) ts[i]
          rw [← HT.out] at hE1
          have HE := Lib.hid hE1
          have hlen := encT_len (ts.take (i + 1))
          have hlI := encI_len zs
          have hl1 := Own.length hO
          rw [bcells_length] at hl1
          clear hE1
          generalize ts[i] = s at hcell HE
          have HLen := Lib.hid hlen
          have HLI2 := Lib.hid hlI
          have HL1 := Lib.hid hl1
          have hcs := cut_size s
          have HC : Hid (s.extract 0 (min (s.size : Int) 1024).toNat = cut s) := Lib.hid rfl
          clear hlen hl1 hyr HT hlI
          go_wp2_with (first | (at_make; refine Stop.un ?_) | (at_builtin; refine Stop.un ?_) | (with_reducible refine Stop.conv 22 9 ?_) | (with_reducible refine Stop.conv 9 22 ?_))
          rw [HC.out]
          refine (text_any ab' k' cb' _ (cut s) _ (Own.cs hO) (by have := HL1.out; omega) (by omega)).mono ?_
          rintro e w2 ⟨a2, k2, c2, h2, rfl, o2⟩
          rw [List.append_assoc, ← HE.out] at h2 o2
          have O2 := Own.up o2 (Own.below hO)
          have H2 := Lib.hid h2
          clear h2 hO o2
          go_wp2_with (first | (at_make; refine Stop.un ?_) | (at_builtin; refine Stop.un ?_) | (with_reducible refine Stop.conv 22 9 ?_) | (with_reducible refine Stop.conv 9 22 ?_))
          go_roundw
          case rel => exact ⟨i + 1, k2, a2, c2, by omega, by rw [← H2.out, List.length_append]; have := HLen.out; rw [List.length_take] at this; have := HLI2.out; have := HX.out; omega, by go_num, rfl, O2⟩
          case measure => simp [intOf]; omega
        · have hge : i = q := by omega
          subst hge
          have hall : ts.take i = ts := List.take_of_length_le (by have := HY.out; omega)
          rw [hall] at hO
          have hl1 := Own.length hO
          rw [bcells_length] at hl1
          have HL1 := Lib.hid hl1
          clear hall hlt hi hl1
          go_wp2_with (first | (at_make; refine Stop.un ?_) | (at_builtin; refine Stop.un ?_) | (with_reducible refine Stop.conv 22 9 ?_) | (with_reducible refine Stop.conv 9 22 ?_))
          refine (newo_any ab' k' cb' _ _ (Own.cs hO) (by have := HL1.out; omega) (by omega)).mono ?_
          rintro e w2 ⟨g, rfl, hg, hr, b2⟩
          have bO := b1.next (Own.below hO)
          have hg0 : w.heap.size ≤ g := Nat.le_trans bO.size hg
          have b12 := bO.next b2
          generalize wr.heap.size = B at hr
          generalize w2.heap.size = T at hr
          clear hO bO b2 hg
          go_wp2_with (first | (at_make; refine Stop.un ?_) | (at_builtin; refine Stop.un ?_) | (with_reducible refine Stop.conv 22 9 ?_) | (with_reducible refine Stop.conv 9 22 ?_))
          go_loopw [60] (fun c wr => ∃ (j' : Nat), j' ≤ j ∧ c = .int .i64 (j' : Int) ∧ Rdr 49 B T wr g (encI (zs.drop j') ++ encT ts) false ∧ Below w.heap.size w wr) (fun c _ => j - (intOf c).toNat)
          case atStart => exact ⟨0, by omega, rfl, by simpa using hr, b12⟩
          case round =>
            clear hr b12
            obtain ⟨j', hj', rfl, hr, bw⟩ := hrel
            by_cases hlt : j' < j
            · have hjl : j' < zs.length := by have := HX.out; omega
              obtain ⟨b, o, rfl⟩ := hx.addr (by rw [List.length_map]; omega)
              have hcell := (hx.mono bw (Nat.le_refl _)).at (j := j') (u := .int .i64 zs[j']) (by simp [hjl])
              obtain ⟨hn0, hn1⟩ := HW.out zs[j'] (List.getElem_mem _)
              rw [List.drop_eq_getElem_cons hjl, encI_cons, List.append_assoc, List.append_assoc] at hr
              generalize zs[j'] = n at hcell hn0 hn1 hr
              have Hjl := Lib.hid hjl
              clear hjl
              have hz := Lib.zigzag_lt hn0 hn1
              have HZ := Lib.hid hz
              clear hz
              go_wp2_with (first | (at_make; refine Stop.un ?_) | (at_builtin; refine Stop.un ?_) | (with_reducible refine Stop.conv 22 9 ?_) | (with_reducible refine Stop.conv 9 22 ?_))
              refine (rinto_any _ _ _ g _ _ _ hr).mono ?_
              obtain ⟨e1, e2, e3⟩ := rd_numB (Lib.zigzag n) HZ.out (numB (un n) ++ (encI (List.drop (j' + 1) zs) ++ encT ts))
              rw [show intB n = numB (Lib.zigzag n) from rfl, e1, e2, e3, zag_zig]
              clear e1 e2 e3
              rintro e w3 ⟨rfl, hr3, hg3⟩
              have bw3 := bw.one hg3 hg0 (Nat.le_refl _)
              clear hr bw hg3
              have hnn : (n != n) = false := by simp
              go_wp2_with (first | (at_make; refine Stop.un ?_) | (at_builtin; refine Stop.un ?_) | (with_reducible refine Stop.conv 22 9 ?_) | (with_reducible refine Stop.conv 9 22 ?_))
              refine (rnumo_any _ _ _ g _ _ _ hr3).mono ?_
              obtain ⟨e1, e2, e3⟩ := rd_numB (un n) (un_lt n) (encI (List.drop (j' + 1) zs) ++ encT ts)
              rw [e1, e2, e3]
              clear e1 e2 e3
              rintro e w4 ⟨rfl, hr4, hg4⟩
              have bw4 := bw3.one hg4 hg0 (Nat.le_refl _)
              clear hr3 bw3 hg4
              have hun := un_wrap n
              go_wp2_with (first | (at_make; refine Stop.un ?_) | (at_builtin; refine Stop.un ?_) | (with_reducible refine Stop.conv 22 9 ?_) | (with_reducible refine Stop.conv 9 22 ?_))
              go_roundw
              case rel => exact ⟨j' + 1, by omega, by go_num, hr4, bw4⟩
              case measure => simp [intOf]; omega
            · have hge : j' = j := by omega
              subst hge
              rw [List.drop_of_length_le (by have := HX.out; omega), show encI [] = [] from rfl, List.nil_append] at hr
              clear hlt hj'
              go_wp2_with (first | (at_make; refine Stop.un ?_) | (at_builtin; refine Stop.un ?_) | (with_reducible refine Stop.conv 22 9 ?_) | (with_reducible refine Stop.conv 9 22 ?_))
              go_loopw [78] (fun c wr => ∃ (i' : Nat), i' ≤ i ∧ c = .int .i64 (i' : Int) ∧ Rdr 49 B T wr g (encT (ts.drop i')) false ∧ Below w.heap.size w wr) (fun c _ => i - (intOf c).toNat)
              case atStart => exact ⟨0, by omega, rfl, by simpa using hr, bw⟩
              case round =>
                clear hr bw
                obtain ⟨i', hi', rfl, hr, bw⟩ := hrel
                by_cases hlt : i' < i
                · have hil : i' < ts.length := by have := HY.out; omega
                  obtain ⟨b, o, rfl⟩ := hy.addr (by rw [List.length_map]; omega)
                  have hcell := (hy.mono bw (Nat.le_refl _)).at (j := i') (u := .string ts[i']) (by simp [hil])
                  rw [List.drop_eq_getElem_cons hil, encT_cons] at hr
                  generalize ts[i'] = s at hcell hr
                  have Hil := Lib.hid hil
                  clear hil
                  have hcs := cut_size s
                  have HC : Hid (s.extract 0 (min (s.size : Int) 1024).toNat = cut s) := Lib.hid rfl
                  go_wp2_with (first | (at_make; refine Stop.un ?_) | (at_builtin; refine Stop.un ?_) | (with_reducible refine Stop.conv 22 9 ?_) | (with_reducible refine Stop.conv 9 22 ?_))
                  refine mix_start AnyW Keeps.any 8 rfl (by kernel_rfl) ?_
                  refine mix_quiet Keeps.any 0 rfl (by kernel_rfl) rfl ?_
                  intro ι U hne hU
                  go_big_quiet_op
                  clear hU hne U ι
                  show wpAnyM _ _ _ _ _ _ _ _ _
                  refine mix_quiet Keeps.any 2 rfl (by kernel_rfl) rfl ?_
                  intro ι U hne hU
                  go_big_quiet_op
                  clear hU hne U ι
                  show wpAnyM _ _ _ _ _ _ _ _ _
                  refine mix_quiet Keeps.any 3 rfl (by kernel_rfl) rfl ?_
                  intro ι U hne hU
                  go_big_quiet_op
                  clear hU hne U ι
                  show wpAnyM _ _ _ _ _ _ _ _ _
                  refine mix_quiet Keeps.any 4 rfl (by kernel_rfl) rfl ?_
                  intro ι U hne hU
                  go_big_quiet_op
                  clear hU hne U ι
                  show wpAnyM _ _ _ _ _ _ _ _ _
                  refine mix_quiet Keeps.any 5 rfl (by kernel_rfl) rfl ?_
                  intro ι U hne hU
                  go_big_quiet_op
                  clear hU hne U ι
                  show wpAnyM _ _ _ _ _ _ _ _ _
                  refine mix_quiet Keeps.any 6 rfl (by kernel_rfl) rfl ?_
                  intro ι U hne hU
                  go_big_quiet_op
                  clear hU hne U ι
                  show wpAnyM _ _ _ _ _ _ _ _ _
                  refine mix_any 1 rfl (by kernel_rfl) rfl ?_
                  go_wp2_with (first | (at_make; refine Stop.un ?_) | (at_builtin; refine Stop.un ?_) | (with_reducible refine Stop.conv 22 9 ?_) | (with_reducible refine Stop.conv 9 22 ?_))
                  refine (rtexto_any _ B T g _ false wr.drew hr).mono ?_
                  obtain ⟨e1, e2, e3⟩ := rd_textB (cut s).data.toList (by rw [data_length]; exact hcs) (encT (List.drop (i' + 1) ts))
                  rw [e1, e2, e3, strOf_data]
                  clear e1 e2 e3
                  rintro e w3 ⟨rfl, hr3, hg3⟩
                  have bw3 := bw.drew.one hg3 hg0 (Nat.le_refl _)
                  clear hr bw hg3
                  go_wp2_with (first | (at_make; refine Stop.un ?_) | (at_builtin; refine Stop.un ?_) | (with_reducible refine Stop.conv 22 9 ?_) | (with_reducible refine Stop.conv 9 22 ?_))
                  refine MixPost.mk trivial ?_
                  rw [HC.out]
                  refine mix_quiet Keeps.any 7 rfl (by kernel_rfl) rfl ?_
                  intro ι U hne hU
                  go_big_quiet_op
                  clear hU hne U ι
                  show wpAnyM _ _ _ _ _ _ _ _ _
                  refine mix_end (by kernel_rfl) ?_
                  go_wp2_with (first | (at_make; refine Stop.un ?_) | (at_builtin; refine Stop.un ?_) | (with_reducible refine Stop.conv 22 9 ?_) | (with_reducible refine Stop.conv 9 22 ?_))
                  go_roundw
                  case rel => exact ⟨i' + 1, by omega, by go_num, hr3, bw3⟩
                  case measure => simp [intOf]; omega
                · have hge : i' = i := by omega
                  subst hge
                  rw [List.drop_of_length_le (by have := HY.out; omega), show encT [] = [] from rfl] at hr
                  clear hlt hi'
                  go_wp2_with (first | (at_make; refine Stop.un ?_) | (at_builtin; refine Stop.un ?_) | (with_reducible refine Stop.conv 22 9 ?_) | (with_reducible refine Stop.conv 9 22 ?_))
                  refine (rbado_any _ _ _ g _ _ _ hr).mono ?_
                  rintro e w9 ⟨rfl, rfl⟩
                  go_wp2_with (first | (at_make; refine Stop.un ?_) | (at_builtin; refine Stop.un ?_) | (with_reducible refine Stop.conv 22 9 ?_) | (with_reducible refine Stop.conv 9 22 ?_))
                  refine (rlefto_any _ _ _ g _ _ _ hr).mono ?_
                  rintro e w9 ⟨rfl, rfl⟩
                  go_wp2_with (first | (at_make; refine Stop.un ?_) | (at_builtin; refine Stop.un ?_) | (with_reducible refine Stop.conv 22 9 ?_) | (with_reducible refine Stop.conv 9 22 ?_))
                  refine (rendo_any _ _ _ g _ _ _ hr).mono ?_
                  rw [show endE [] false = 0 from rfl]
                  rintro e w9 ⟨rfl, rfl⟩
                  go_wp2_with (first | (at_make; refine Stop.un ?_) | (at_builtin; refine Stop.un ?_) | (with_reducible refine Stop.conv 22 9 ?_) | (with_reducible refine Stop.conv 9 22 ?_))
                  go_ret
                  exact ⟨rfl, bw⟩
end Go.Proofs.Ytpbcjiabglfihaa
