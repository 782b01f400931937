/- ZoneBack. -/
import Derived.Test.YtdpmaocbfmgmlaaZShown
import Derived.Test.YtdpmaocbfmgmlaaZoneOf
import Derived.Test.YtdpmaocbfmgmlaaVOwn
import Derived.Test.YtdpmaocbfmgmlaaZTake
import Derived.Test.YtdpmaocbfmgmlaaZPut
set_option linter.unusedVariables false
set_option linter.unusedSimpArgs false
namespace Go.Proofs.Ytdpmaocbfmgmlaa
open Go.RowKit
theorem ofZ_in (l : List V) (hl : l.length ≤ 300) (h : ∀ v ∈ l, InR v.n) : InR (ofZ l).lo.n ∧ InR (ofZ l).hi.n ∧ InR (ofZ l).nulls ∧ InR (ofZ l).many := by
  have K := Knows.of l hl
  have F := From.of l
  have h1 := K.nulls
  have h2 := K.many
  have hf : (l.filter fun v => decide (v.k = 0)).length ≤ l.length := List.length_filter_le _ _
  have h0 : InR V.zero.n := by unfold InR V.zero; simp
  refine ⟨?_, ?_, by unfold InR; omega, by unfold InR; omega⟩
  · rcases F.lo with ⟨g, _⟩ | ⟨g, _⟩
    · rw [g]; exact h0
    · exact h _ g
  · rcases F.hi with ⟨g, _⟩ | ⟨g, _⟩
    · rw [g]; exact h0
    · exact h _ g
def keepV (kd : Int) (v : V) : Bool := rightB v && (decide (v.k = 0) || decide (v.k = kd))
theorem keep_snoc (kd : Int) (x : List V) (j : Nat) (h : j < x.length) : (x.take (j + 1)).filter (keepV kd) = if keepV kd x[j] = true then (x.take j).filter (keepV kd) ++ [x[j]] else (x.take j).filter (keepV kd) := by
  rw [List.take_succ_eq_append_getElem h, List.filter_append, List.filter_cons]
  split <;> simp
theorem keep_in (kd : Int) (x : List V) : ∀ v ∈ x.filter (keepV kd), rightB v = true ∧ (v.k = 0 ∨ v.k = kd) := by
  intro v hv
  have := (List.mem_filter.1 hv).2
  unfold keepV at this
  simpa using this
set_option maxRecDepth 100000 in
set_option maxHeartbeats 16000000 in
theorem zoneBack_any (kd : Int) (ao : Option Addr) (m cap : Nat) (l : List V) (w : World) (hk0 : 0 ≤ kd) (hk1 : kd ≤ 255) (hc : Cs w ao (vcells l)) (hm : l.length = m) (hl : m ≤ cap) (hcm : cap ≤ maxLen) (hin : ∀ v ∈ l, InR v.n) :
    Calls Try.prog 8 #[.int .u8 kd, .slice ao m cap] w (fun e w' => e = .returned (.bool true) ∧ Below w.heap.size w w') := by
  have HF1 := Lib.hid (fun w hc => few_any ao m cap l w hc hm hl hcm)
  have hf : fewN 0 l ≤ m := hm ▸ fewN_le l 0
  have hf3 := fewN_300 l 0 (by omega)
  generalize fewN 0 l = f at hf hf3 HF1
  have hx : (l.take f).length = f := by simp; omega
  have hcx := vcut hc f
  have hinx : ∀ v ∈ l.take f, InR v.n := fun v hv => hin v (List.mem_of_mem_take hv)
  generalize l.take f = x at hx hcx hinx
  have HX := Lib.hid hx
  have HIN := Lib.hid hinx
  unfold maxLen at hcm
  clear hx hm hin hinx
  go_enter Try.func8, Try.ntmps8
  go_wp2_with (first | (at_make; refine Stop.un ?_) | (at_builtin; refine Stop.un ?_) | (with_reducible refine Stop.conv 40 9 ?_) | (with_reducible refine Stop.conv 9 40 ?_))
  refine (shown_any _).mono ?_
  rintro e w1 ⟨rfl, b1⟩
  replace hc := hc.mono b1 (Nat.le_refl _)
  go_wp2_with (first | (at_make; refine Stop.un ?_) | (at_builtin; refine Stop.un ?_) | (with_reducible refine Stop.conv 40 9 ?_) | (with_reducible refine Stop.conv 9 40 ?_))
  refine (HF1.out _ hc).mono ?_
  rintro e w2 ⟨rfl, rfl⟩
  clear hc HF1
  go_wp2_with (first | (at_make; refine Stop.un ?_) | (at_builtin; refine Stop.un ?_) | (with_reducible refine Stop.conv 40 9 ?_) | (with_reducible refine Stop.conv 9 40 ?_))
  go_loopw [6, 16] (fun v c wr => ∃ (j : Nat) (ab : Option Addr) (nn cb : Nat), j ≤ f ∧ nn ≤ j ∧ c = .int .i64 (j : Int) ∧ v = .slice ab nn cb ∧ OwnV w wr (.slice ab nn cb) nn ((x.take j).filter (keepV kd))) (fun _ c _ => f - (intOf c).toNat)
  case atStart => exact ⟨0, none, 0, 0, by omega, by omega, rfl, rfl, Own.nil _ _ b1⟩
  case round =>
    clear b1
    obtain ⟨j, ab, nn, cb, hj, hnj, rfl, rfl, hO⟩ := hrel
    by_cases hlt : j < f
    · have hjl : j < x.length := by have := HX.out; omega
      have d1 := hcx.mono (Own.below hO) (Nat.le_refl _)
      obtain ⟨q, o, rfl⟩ := d1.addr (by rw [vcells_length]; omega)
      obtain ⟨x0, x1, x2⟩ := d1.vat hjl
      have hsn := keep_snoc kd x j hjl
      generalize x[j] = u at x0 x1 x2 hsn
      obtain ⟨k5, n5, s5⟩ := u
      simp only at x0 x1 x2
      have HR := Lib.hid (fun w => right_x k5 n5 s5 w)
      have hkp : keepV kd ⟨k5, n5, s5⟩ = (rightB ⟨k5, n5, s5⟩ && (decide (k5 = 0) || decide (k5 = kd))) := rfl
      rw [hkp] at hsn
      generalize rightB ⟨k5, n5, s5⟩ = r at HR hsn
      have HSN := Lib.hid hsn
      clear hsn hkp hjl d1
      have zr := At.new wr #[.int .u8 k5, .int .i64 n5, .string s5] 24
      have bz := (Below.refl wr.heap.size wr).alloc (Nat.le_refl _) (.cells #[.int .u8 k5, .int .i64 n5, .string s5] 24)
      go_wp2_with (first | (at_make; refine Stop.un ?_) | (at_builtin; refine Stop.un ?_) | (with_reducible refine Stop.conv 40 9 ?_) | (with_reducible refine Stop.conv 9 40 ?_))
      refine (HR.out _).mono ?_
      rintro e w3 ⟨rfl, b3⟩
      have hO3 := Own.keep (Own.keep hO bz) b3
      replace zr := zr.mono b3
      clear bz b3 hO x0 x1 x2 HR
      have v0 := zr.cell 0 rfl
      have v1 := zr.cell 1 rfl
      have v2 := zr.cell 2 rfl
      have vl := zr.lt
      cases r with
      | false =>
        have hs := HSN.out
        rw [if_neg (by simp)] at hs
        have HS := Lib.hid hs
        clear hs HSN zr
        go_wp2_with (first | (at_make; refine Stop.un ?_) | (at_builtin; refine Stop.un ?_) | (with_reducible refine Stop.conv 40 9 ?_) | (with_reducible refine Stop.conv 9 40 ?_))
        go_roundw
        case rel => exact ⟨j + 1, ab, nn, cb, by omega, by omega, by go_num, rfl, by rw [HS.out]; exact hO3⟩
        case measure => simp [intOf]; omega
      | true =>
        by_cases h0 : k5 = 0
        ·
          have e0 : (k5 == 0) = true := by simpa using h0
          have H0 := Lib.hid h0
          clear h0
          have hs := HSN.out
          rw [if_pos (by simp [H0.out])] at hs
          have HS := Lib.hid hs
          clear hs HSN zr
          go_wp2_with (first | (at_make; refine Stop.un ?_) | (at_builtin; refine Stop.un ?_) | (with_reducible refine Stop.conv 40 9 ?_) | (with_reducible refine Stop.conv 9 40 ?_))
          refine Stop.mk (app_v1 (c := ⟨k5, n5, s5⟩) w _ _ rfl rfl hO3 rfl rfl (by omega) ?_)
          intro a6 c6 w6 hO6 hg6 hk6
          rw [← HS.out] at hO6
          clear hO3
          go_wp2_with (first | (at_make; refine Stop.un ?_) | (at_builtin; refine Stop.un ?_) | (with_reducible refine Stop.conv 40 9 ?_) | (with_reducible refine Stop.conv 9 40 ?_))
          go_roundw
          case rel => exact ⟨j + 1, a6, nn + 1, c6, by omega, by omega, by go_num, rfl, hO6⟩
          case measure => simp [intOf]; omega
        ·
          have e0 : (k5 == 0) = false := by simpa using h0
          by_cases h1 : k5 = kd
          ·
            have e1 : (k5 == kd) = true := by simpa using h1
            have H1 := Lib.hid h1
            clear h1 h0
            have hs := HSN.out
            rw [if_pos (by simp [H1.out])] at hs
            have HS := Lib.hid hs
            clear hs HSN zr
            go_wp2_with (first | (at_make; refine Stop.un ?_) | (at_builtin; refine Stop.un ?_) | (with_reducible refine Stop.conv 40 9 ?_) | (with_reducible refine Stop.conv 9 40 ?_))
            refine Stop.mk (app_v1 (c := ⟨k5, n5, s5⟩) w _ _ rfl rfl hO3 rfl rfl (by omega) ?_)
            intro a6 c6 w6 hO6 hg6 hk6
            rw [← HS.out] at hO6
            clear hO3
            go_wp2_with (first | (at_make; refine Stop.un ?_) | (at_builtin; refine Stop.un ?_) | (with_reducible refine Stop.conv 40 9 ?_) | (with_reducible refine Stop.conv 9 40 ?_))
            go_roundw
            case rel => exact ⟨j + 1, a6, nn + 1, c6, by omega, by omega, by go_num, rfl, hO6⟩
            case measure => simp [intOf]; omega
          ·
            have e1 : (k5 == kd) = false := by simpa using h1
            have H1 := Lib.hid (And.intro h0 h1)
            clear h1 h0
            have hs := HSN.out
            rw [if_neg (by simp [H1.out.1, H1.out.2])] at hs
            have HS := Lib.hid hs
            clear hs HSN zr
            go_wp2_with (first | (at_make; refine Stop.un ?_) | (at_builtin; refine Stop.un ?_) | (with_reducible refine Stop.conv 40 9 ?_) | (with_reducible refine Stop.conv 9 40 ?_))
            go_roundw
            case rel => exact ⟨j + 1, ab, nn, cb, by omega, by omega, by go_num, rfl, by rw [HS.out]; exact hO3⟩
            case measure => simp [intOf]; omega
    · have hjf : j = f := by omega
      subst hjf
      rw [List.take_of_length_le (by rw [HX.out]; omega)] at hO
      have hxl := OwnV.length hO
      have hki := keep_in kd x
      have hii : ∀ v ∈ x.filter (keepV kd), InR v.n := fun v hv => HIN.out v (List.mem_filter.1 hv).1
      generalize x.filter (keepV kd) = xs at hO hxl hki hii
      have hlen : xs.length ≤ 300 := by omega
      have HO := Lib.hid (fun w hc => zof_any ab nn cb xs w hc hxl (owns_le hO.1) (owns_max hO.1))
      obtain ⟨hi1, hi2, hi3, hi4⟩ := ofZ_in xs hlen hii
      have HPU := Lib.hid (fun w => zput_any (ofZ xs) w hi1 hi2 hi3 hi4)
      have HPL := Lib.hid (putZ_le (ofZ xs))
      have HRI := Lib.hid (fun w => zright_any kd (ofZ xs) w ⟨hi4, hi3⟩)
      have HTK := Lib.hid (fun a n c w hc hm hl hlc => ztake_any kd a n c (putZ (ofZ xs)) w hc hm hl hlc)
      have HG : Hid (kindB kd = true → rightZ kd (ofZ xs) = true ∧ tzZ kd (putZ (ofZ xs)) = ofZ xs ∧ tzE kd (putZ (ofZ xs)) = 0) := Lib.hid (fun hk => by
        obtain ⟨g1, g2, g3⟩ := right_of kd xs hlen hk hki
        have g4 := takeZ_put kd (ofZ xs) g1 g2 g3 hi1 hi2 hi3 hi4
        exact ⟨g1, by unfold tzZ; rw [g4]; rfl, by unfold tzE; rw [g4, hk]; rfl⟩)
      have HB : Hid (kindB kd = false → rightZ kd (ofZ xs) = false ∧ tzE kd (putZ (ofZ xs)) = 1) := Lib.hid (fun hk => by
        exact ⟨by unfold rightZ; rw [hk]; rfl, by unfold tzE; rw [hk]; rfl⟩)
      generalize putZ (ofZ xs) = pz at HPU HPL HTK HG HB
      generalize tzE kd pz = er at HTK HG HB
      generalize tzZ kd pz = zt at HTK HG
      generalize rightZ kd (ofZ xs) = R at HRI HG HB
      generalize ofZ xs = zx at HO HPU HRI HG
      have BB := Own.below hO
      have cs := Own.cs hO
      obtain ⟨⟨k, n, s⟩, ⟨k', n', s'⟩, nu, ma⟩ := zx
      simp only [Zn.val] at HO HPU HRI
      clear hxl hki hii hlen hi1 hi2 hi3 hi4 hO hcx
      go_wp2_with (first | (at_make; refine Stop.un ?_) | (at_builtin; refine Stop.un ?_) | (with_reducible refine Stop.conv 40 9 ?_) | (with_reducible refine Stop.conv 9 40 ?_))
      refine (HO.out _ cs).mono ?_
      rintro e w4 ⟨rfl, bt⟩
      clear cs HO
      replace BB := Below.next BB bt
      clear bt
      go_upto_region 10 with fail
      have z9 := At.new w4 #[.int .u8 k, .int .i64 n, .string s, .int .u8 k', .int .i64 n', .string s', .int .i64 nu, .int .i64 ma] 26
      have bz := (Below.refl w4.heap.size w4).alloc (Nat.le_refl _) (.cells #[.int .u8 k, .int .i64 n, .string s, .int .u8 k', .int .i64 n', .string s', .int .i64 nu, .int .i64 ma] 26)
      replace BB := Below.next BB bz
      clear bz
      generalize w4.alloc (.cells #[.int .u8 k, .int .i64 n, .string s, .int .u8 k', .int .i64 n', .string s', .int .i64 nu, .int .i64 ma] 26) = y4 at BB z9 ⊢
      generalize w4.heap.size = h9 at z9 ⊢
      have y0 := z9.cell 0 rfl
      have y1 := z9.cell 1 rfl
      have y2 := z9.cell 2 rfl
      have y3 := z9.cell 3 rfl
      have y4 := z9.cell 4 rfl
      have y5 := z9.cell 5 rfl
      have y6 := z9.cell 6 rfl
      have y7 := z9.cell 7 rfl
      have yl := z9.lt
      go_wp2_with (first | (at_make; refine Stop.un ?_) | (at_builtin; refine Stop.un ?_) | (with_reducible refine Stop.conv 40 9 ?_) | (with_reducible refine Stop.conv 9 40 ?_))
      refine (HPU.out _).mono ?_
      rintro e w5 ⟨a5, n5, c5, h5, rfl, o5⟩
      have bt := Own.below o5
      have cs5 := Own.cs o5
      have le5 := owns_le o5.1
      have hn5 : n5 ≤ 3000 := by have := HPL.out; omega
      have H5 := Lib.hid h5
      clear yl y0 y1 y2 y3 y4 y5 y6 y7
      replace BB := Below.next BB bt
      replace z9 := At.mono z9 bt
      clear bt o5 h5 HPU HPL
      go_wp2_with (first | (at_make; refine Stop.un ?_) | (at_builtin; refine Stop.un ?_) | (with_reducible refine Stop.conv 40 9 ?_) | (with_reducible refine Stop.conv 9 40 ?_))
      refine (HTK.out a5 n5 c5 _ cs5 H5.out (by omega) le5).mono ?_
      rintro e w6 ⟨rfl, bt⟩
      replace BB := Below.next BB bt
      replace z9 := At.mono z9 bt
      clear bt cs5 HTK H5
      cases hk : kindB kd with
      | false =>
        obtain ⟨rfl, rfl⟩ := HB.out hk
        obtain ⟨⟨k7, n7, s7⟩, ⟨k8, n8, s8⟩, nu7, ma7⟩ := zt
        simp only [Zn.val]
        have hkk : kd < 1 ∨ (¬ kd < 1 ∧ 3 < kd) := by unfold kindB at hk; simp at hk; omega
        clear HG HB hk
        rcases hkk with hkk | ⟨hkk, hkk2⟩
        ·
          have bz := (Below.refl w6.heap.size w6).alloc (Nat.le_refl _) (.cells #[.int .u8 k7, .int .i64 n7, .string s7, .int .u8 k8, .int .i64 n8, .string s8, .int .i64 nu7, .int .i64 ma7] 26)
          replace BB := Below.next BB bz
          replace z9 := At.mono z9 bz
          clear bz
          have y0 := z9.cell 0 rfl
          have y1 := z9.cell 1 rfl
          have y2 := z9.cell 2 rfl
          have y3 := z9.cell 3 rfl
          have y4 := z9.cell 4 rfl
          have y5 := z9.cell 5 rfl
          have y6 := z9.cell 6 rfl
          have y7 := z9.cell 7 rfl
          have yl := z9.lt
          go_wp2_with (first | (at_make; refine Stop.un ?_) | (at_builtin; refine Stop.un ?_) | (with_reducible refine Stop.conv 40 9 ?_) | (with_reducible refine Stop.conv 9 40 ?_))
          refine (HRI.out _).mono ?_
          rintro e w7 ⟨rfl, bt⟩
          clear yl y0 y1 y2 y3 y4 y5 y6 y7
          replace BB := Below.next BB bt
          clear bt
          go_wp2_with (first | (at_make; refine Stop.un ?_) | (at_builtin; refine Stop.un ?_) | (with_reducible refine Stop.conv 40 9 ?_) | (with_reducible refine Stop.conv 9 40 ?_))
          go_ret
          exact ⟨rfl, BB⟩
        ·
          have bz := (Below.refl w6.heap.size w6).alloc (Nat.le_refl _) (.cells #[.int .u8 k7, .int .i64 n7, .string s7, .int .u8 k8, .int .i64 n8, .string s8, .int .i64 nu7, .int .i64 ma7] 26)
          replace BB := Below.next BB bz
          replace z9 := At.mono z9 bz
          clear bz
          have y0 := z9.cell 0 rfl
          have y1 := z9.cell 1 rfl
          have y2 := z9.cell 2 rfl
          have y3 := z9.cell 3 rfl
          have y4 := z9.cell 4 rfl
          have y5 := z9.cell 5 rfl
          have y6 := z9.cell 6 rfl
          have y7 := z9.cell 7 rfl
          have yl := z9.lt
          go_wp2_with (first | (at_make; refine Stop.un ?_) | (at_builtin; refine Stop.un ?_) | (with_reducible refine Stop.conv 40 9 ?_) | (with_reducible refine Stop.conv 9 40 ?_))
          refine (HRI.out _).mono ?_
          rintro e w7 ⟨rfl, bt⟩
          clear yl y0 y1 y2 y3 y4 y5 y6 y7
          replace BB := Below.next BB bt
          clear bt
          go_wp2_with (first | (at_make; refine Stop.un ?_) | (at_builtin; refine Stop.un ?_) | (with_reducible refine Stop.conv 40 9 ?_) | (with_reducible refine Stop.conv 9 40 ?_))
          go_ret
          exact ⟨rfl, BB⟩
      | true =>
        obtain ⟨rfl, rfl, rfl⟩ := HG.out hk
        simp only [Zn.val]
        have hkk : ¬ kd < 1 ∧ ¬ 3 < kd := by unfold kindB at hk; simp at hk; omega
        obtain ⟨hkk, hkk2⟩ := hkk
        clear HG HB hk
        have z10 := At.new w6 #[.int .u8 k, .int .i64 n, .string s, .int .u8 k', .int .i64 n', .string s', .int .i64 nu, .int .i64 ma] 26
        have bz := (Below.refl w6.heap.size w6).alloc (Nat.le_refl _) (.cells #[.int .u8 k, .int .i64 n, .string s, .int .u8 k', .int .i64 n', .string s', .int .i64 nu, .int .i64 ma] 26)
        replace BB := Below.next BB bz
        replace z9 := At.mono z9 bz
        clear bz
        have y0 := z9.cell 0 rfl
        have y1 := z9.cell 1 rfl
        have y2 := z9.cell 2 rfl
        have y3 := z9.cell 3 rfl
        have y4 := z9.cell 4 rfl
        have y5 := z9.cell 5 rfl
        have y6 := z9.cell 6 rfl
        have y7 := z9.cell 7 rfl
        have yl := z9.lt
        go_wp2_with (first | (at_make; refine Stop.un ?_) | (at_builtin; refine Stop.un ?_) | (with_reducible refine Stop.conv 40 9 ?_) | (with_reducible refine Stop.conv 9 40 ?_))
        refine (HRI.out _).mono ?_
        rintro e w7 ⟨rfl, bt⟩
        clear yl y0 y1 y2 y3 y4 y5 y6 y7
        replace BB := Below.next BB bt
        replace z9 := At.mono z9 bt
        replace z10 := At.mono z10 bt
        clear bt
        have y0 := z9.cell 0 rfl
        have y1 := z9.cell 1 rfl
        have y2 := z9.cell 2 rfl
        have y3 := z9.cell 3 rfl
        have y4 := z9.cell 4 rfl
        have y5 := z9.cell 5 rfl
        have y6 := z9.cell 6 rfl
        have y7 := z9.cell 7 rfl
        have yl := z9.lt
        have t0 := z10.cell 0 rfl
        have t1 := z10.cell 1 rfl
        have t2 := z10.cell 2 rfl
        have t3 := z10.cell 3 rfl
        have t4 := z10.cell 4 rfl
        have t5 := z10.cell 5 rfl
        have t6 := z10.cell 6 rfl
        have t7 := z10.cell 7 rfl
        have tl := z10.lt
        go_wp2_with (first | (at_make; refine Stop.un ?_) | (at_builtin; refine Stop.un ?_) | (with_reducible refine Stop.conv 40 9 ?_) | (with_reducible refine Stop.conv 9 40 ?_) | (with_reducible refine Stop.eql 26 ?_))
        refine Stop.mk (wpList_as _ rfl (exec_eqZ ⟨⟨_, _, _⟩, ⟨_, _, _⟩, _, _⟩ rfl rfl _) ?_)
        go_wp2_with (first | (at_make; refine Stop.un ?_) | (at_builtin; refine Stop.un ?_) | (with_reducible refine Stop.conv 40 9 ?_) | (with_reducible refine Stop.conv 9 40 ?_))
        go_ret
        exact ⟨rfl, BB⟩
end Go.Proofs.Ytdpmaocbfmgmlaa
