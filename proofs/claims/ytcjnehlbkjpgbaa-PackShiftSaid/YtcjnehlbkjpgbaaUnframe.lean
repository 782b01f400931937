/- Unframe. -/
import Derived.Test.YtcjnehlbkjpgbaaUnfP
import Derived.Test.YtcjnehlbkjpgbaaUnpack
import Derived.Test.YtcjnehlbkjpgbaaCut
set_option linter.unusedVariables false
set_option linter.unusedSimpArgs false
namespace Go.Proofs.Ytcjnehlbkjpgbaa
open Go.RowKit
/-- Ints of the call's own, and a kind. -/
def RetK (w : World) (o : Option (List Int)) : Ending → World → Prop := fun e w' =>
  ∃ (ao : Option Addr) (n cap : Nat), (o.getD []).length = n ∧ e = .returned (.tuple #[.slice ao n cap, .int .i64 (tkF o)]) ∧ OwnI w w' (.slice ao n cap) n (o.getD [])
theorem At.putI {w : World} {h i : Nat} {xs : List Int} {t : TypeId} (z : At w h (icells xs).toArray t) (y : Int) :
    At (w.setCell ⟨h, i, none⟩ (.int .i64 y)) h (icells (xs.set i y)).toArray t := by
  have hs := z.set i (.int .i64 y)
  have e : (icells xs).toArray.setIfInBounds i (.int .i64 y) = (icells (xs.set i y)).toArray := by simp [icells, List.map_set]
  rw [e] at hs
  exact hs
theorem take_snoc_eq {l : List Nat} {j : Nat} (h : j < l.length) : l.take (j + 1) = l.take j ++ [l[j]] := List.take_succ_eq_append_getElem h
set_option maxHeartbeats 1000000 in
theorem index_any (ao : Option Addr) (m cap : Nat) (l : List Nat) (x : Nat) (w : World) (hc : Cs w ao (ucells l)) (hm : l.length = m) (hlc : m ≤ cap) (hl : cap ≤ maxLen) :
    Calls Try.prog 45 #[.slice ao m cap, .int .u64 (x : Int)] w (fun e w' => ∃ i : Int, e = .returned (.int .i64 i) ∧ (0 ≤ i ↔ x ∈ l) ∧ w = w') := by
  unfold maxLen at hl
  have HM := Lib.hid hm
  clear hm
  go_enter Try.func45, Try.ntmps45
  go_wp2_with (first | (at_make; refine Stop.un ?_) | (at_builtin; refine Stop.un ?_) | (with_reducible refine Stop.conv 24 9 ?_) | (with_reducible refine Stop.conv 9 24 ?_))
  go_loopw [8] (fun c wr => ∃ j : Nat, j ≤ m ∧ c = .int .i64 (j : Int) ∧ wr = w ∧ Hid (x ∉ l.take j)) (fun c _ => m - (intOf c).toNat)
  case atStart => exact ⟨0, Nat.zero_le _, rfl, rfl, Lib.hid (by simp)⟩
  case round =>
    obtain ⟨j, hj, rfl, rfl, HX⟩ := hrel
    by_cases hlt : j < m
    · have hjl : j < l.length := by have := HM.out; omega
      obtain ⟨b, o, rfl⟩ := hc.addr (by rw [ucells_length]; omega)
      have x1 : wr.cell? ⟨b, o + j, none⟩ = some (.int .u64 ((l[j] : Nat) : Int)) := hc.at (by simp [ucells, hjl])
      have hT := take_snoc_eq hjl
      have hmem : l[j] ∈ l := List.getElem_mem _
      generalize l[j] = y at x1 hT hmem
      by_cases he : x = y
      · subst he
        have hIn := Lib.hid hmem
        clear hT hmem HX hjl
        go_wp2_with (first | (at_make; refine Stop.un ?_) | (at_builtin; refine Stop.un ?_) | (with_reducible refine Stop.conv 24 9 ?_) | (with_reducible refine Stop.conv 9 24 ?_))
        go_ret
        exact ⟨_, rfl, ⟨fun _ => hIn.out, fun _ => by omega⟩, rfl⟩
      · have hb : ((x : Int) == (y : Int)) = false := by simp; omega
        have HX2 : Hid (x ∉ l.take (j + 1)) := Lib.hid (by rw [hT, List.mem_append, List.mem_singleton]; exact fun h => h.elim HX.out he)
        clear hT hmem HX hjl he
        go_wp2_with (first | (at_make; refine Stop.un ?_) | (at_builtin; refine Stop.un ?_) | (with_reducible refine Stop.conv 24 9 ?_) | (with_reducible refine Stop.conv 9 24 ?_))
        go_roundw
        case rel => exact ⟨j + 1, by omega, by go_num, True.intro, HX2⟩
        case measure => simp [intOf]; omega
    · have hjm : j = m := by omega
      have hno := HX.out
      rw [List.take_of_length_le (by rw [HM.out]; omega)] at hno
      have HNO := Lib.hid hno
      clear HX hno
      go_wp2_with (first | (at_make; refine Stop.un ?_) | (at_builtin; refine Stop.un ?_) | (with_reducible refine Stop.conv 24 9 ?_) | (with_reducible refine Stop.conv 9 24 ?_))
      go_ret
      exact ⟨_, rfl, ⟨fun h => by omega, fun h => absurd h HNO.out⟩, rfl⟩
set_option maxHeartbeats 1000000 in
theorem contains_any (ao : Option Addr) (m cap : Nat) (l : List Nat) (x : Nat) (w : World) (hc : Cs w ao (ucells l)) (hm : l.length = m) (hlc : m ≤ cap) (hl : cap ≤ maxLen) :
    Calls Try.prog 38 #[.slice ao m cap, .int .u64 (x : Int)] w (fun e w' => e = .returned (.bool (decide (x ∈ l))) ∧ w = w') := by
  have H := Lib.hid (index_any ao m cap l x w hc hm hlc hl)
  have HQ : Hid (∃ q : Bool, decide (x ∈ l) = q) := Lib.hid ⟨_, rfl⟩
  obtain ⟨q, hq⟩ := HQ.out
  rw [hq]
  have HQ := Lib.hid hq
  clear hc hm hl hq
  go_enter Try.func38, Try.ntmps38
  go_wp2_with (first | (at_make; refine Stop.un ?_) | (at_builtin; refine Stop.un ?_) | (with_reducible refine Stop.conv 24 9 ?_) | (with_reducible refine Stop.conv 9 24 ?_))
  refine H.out.mono ?_
  rintro e w1 ⟨i, rfl, hi, rfl⟩
  by_cases h0 : 0 ≤ i
  · obtain rfl : q = true := by rw [← HQ.out]; exact decide_eq_true (hi.1 h0)
    clear hi
    go_wp2_with (first | (at_make; refine Stop.un ?_) | (at_builtin; refine Stop.un ?_) | (with_reducible refine Stop.conv 24 9 ?_) | (with_reducible refine Stop.conv 9 24 ?_))
    go_ret
    exact ⟨by simp [h0], rfl⟩
  · obtain rfl : q = false := by rw [← HQ.out]; exact decide_eq_false (fun h => h0 (hi.2 h))
    clear hi
    go_wp2_with (first | (at_make; refine Stop.un ?_) | (at_builtin; refine Stop.un ?_) | (with_reducible refine Stop.conv 24 9 ?_) | (with_reducible refine Stop.conv 9 24 ?_))
    go_ret
    exact ⟨by simp [h0], rfl⟩
theorem addW_wrap (least : Int) (y : Nat) : wrap64 (IntKind.u64.wrap (IntKind.u64.wrap least + (y : Int))) = addW least y := by
  unfold addW wrap64
  rw [IntKind.wrap_i64]
set_option maxHeartbeats 8000000 in
set_option maxRecDepth 100000 in
theorem unframe_any (ao : Option Addr) (m cap : Nat) (bs : List UInt8) (w : World) (hc : Cs w ao (bcells bs)) (hm : bs.length = m) (hlc : m ≤ cap) (hl : m ≤ 4000000000) :
    Calls Try.prog 22 #[.slice ao m cap] w (RetK w (unfO bs)) := by
  have HM := Lib.hid hm; clear hm
  go_enter Try.func22, Try.ntmps22
  go_wp2_with (first | (at_make; refine Stop.un ?_) | (at_builtin; refine Stop.un ?_) | (with_reducible refine Stop.conv 24 9 ?_) | (with_reducible refine Stop.conv 9 24 ?_))
  refine (newo_any ao m cap bs _ hc HM.out (by omega)).mono ?_
  rintro e w1 ⟨g, rfl, hg, hr, b1⟩
  go_wp2_with (first | (at_make; refine Stop.un ?_) | (at_builtin; refine Stop.un ?_) | (with_reducible refine Stop.conv 24 9 ?_) | (with_reducible refine Stop.conv 9 24 ?_))
  refine (rnumo_any _ _ _ g _ _ _ hr).mono ?_
  rintro e w2 ⟨rfl, hr2, hg2⟩
  have b2 := b1.one hg2 hg (Nat.le_refl _)
  rw [Bool.false_or] at hr2
  have hN := rdN_lt bs
  clear hr hg2 b1
  by_cases h0 : rdN bs = 0
  · by_cases hE : endE (rdRest bs) (rdBad bs) = 0
    · have H2 := Lib.hid (unfO_nil h0 hE)
      rw [h0]
      clear h0 hN
      go_wp2_with (first | (at_make; refine Stop.un ?_) | (at_builtin; refine Stop.un ?_) | (with_reducible refine Stop.conv 24 9 ?_) | (with_reducible refine Stop.conv 9 24 ?_))
      refine (rendo_any _ _ _ g _ _ _ hr2).mono ?_
      rintro e w3 ⟨rfl, rfl⟩
      rw [hE]
      clear hr2 hE
      go_wp2_with (first | (at_make; refine Stop.un ?_) | (at_builtin; refine Stop.un ?_) | (with_reducible refine Stop.conv 24 9 ?_) | (with_reducible refine Stop.conv 9 24 ?_))
      go_ret2
      rw [H2.out]
      exact ⟨none, 0, 0, rfl, rfl, Own.nil _ _ b2⟩
    · have H2 := Lib.hid (unfO_end h0 hE)
      have h6 : endE (rdRest bs) (rdBad bs) = 6 := by unfold endE at *; split <;> simp_all
      rw [h0]
      clear h0 hN hE
      go_wp2_with (first | (at_make; refine Stop.un ?_) | (at_builtin; refine Stop.un ?_) | (with_reducible refine Stop.conv 24 9 ?_) | (with_reducible refine Stop.conv 9 24 ?_))
      refine (rendo_any _ _ _ g _ _ _ hr2).mono ?_
      rintro e w3 ⟨rfl, rfl⟩
      rw [h6]
      clear hr2 h6
      go_wp2_with (first | (at_make; refine Stop.un ?_) | (at_builtin; refine Stop.un ?_) | (with_reducible refine Stop.conv 24 9 ?_) | (with_reducible refine Stop.conv 9 24 ?_))
      go_ret2
      rw [H2.out]
      exact ⟨none, 0, 0, rfl, rfl, Own.nil _ _ b2⟩
  · by_cases hbig : 4096 < rdN bs
    · have H2 := Lib.hid (unfO_big hbig)
      generalize rdN bs = N at hN hbig h0 ⊢
      clear h0 hr2
      go_wp2_with (first | (at_make; refine Stop.un ?_) | (at_builtin; refine Stop.un ?_) | (with_reducible refine Stop.conv 24 9 ?_) | (with_reducible refine Stop.conv 9 24 ?_))
      go_ret2
      rw [H2.out]
      exact ⟨none, 0, 0, rfl, rfl, Own.nil _ _ b2⟩
    · have hN4 : rdN bs ≤ 4096 := by omega
      have HMID := Lib.hid (unfO_mid h0)
      have HOK := Lib.hid (unfO_ok h0 hN4)
      have HUR : Hid (unpE (unfRest bs) (rdN bs) (unfW bs) = 0 → unpR (unfRest bs) (rdN bs) (unfW bs) = unfMore bs) := Lib.hid unf_unp
      have HUP := Lib.hid (fun a n c w hc hb hlc => unpack_any a n c (rdN bs) (unfW bs) (unfRest bs) w hc hb hlc)
      have HDR : Hid (unfBad bs = false → bs.drop (bs.length - (unfRest bs).length) = unfRest bs ∧ (unfRest bs).length ≤ bs.length) := Lib.hid unf_drop
      have hW : unfW bs < 18446744073709551616 := rdN_lt _
      have hmin : -9223372036854775808 ≤ unfLeast bs ∧ unfLeast bs ≤ 9223372036854775807 := zag_in (rdN_lt (rdRest bs))
      have HML : Hid ((unfMore bs).length = rdN bs) := Lib.hid (unpN_length _ _ _)
      have HMX : Hid (unfW bs ≤ 64 → ∀ x ∈ unfMore bs, x < 2 ^ 64) := Lib.hid (unfMore_lt bs)
      have h1 : 0 < rdN bs := by omega
      have hN0 : ((rdN bs : Int) == 0) = false := by simp; omega
      have hN1 : decide ((4096 : Int) < (rdN bs : Int)) = false := decide_eq_false (by omega)
      clear h0 hbig
      go_wp2_with (first | (at_make; refine Stop.un ?_) | (at_builtin; refine Stop.un ?_) | (with_reducible refine Stop.conv 24 9 ?_) | (with_reducible refine Stop.conv 9 24 ?_))
      refine (rinto_any _ _ _ g _ _ _ hr2).mono ?_
      rintro e w3 ⟨rfl, hr3, hg3⟩
      have b3 := b2.one hg3 hg (Nat.le_refl _)
      clear hr2 hg3 b2
      rw [show zag (rdN (rdRest bs)) = unfLeast bs from rfl]
      go_wp2_with (first | (at_make; refine Stop.un ?_) | (at_builtin; refine Stop.un ?_) | (with_reducible refine Stop.conv 24 9 ?_) | (with_reducible refine Stop.conv 9 24 ?_))
      refine (rnumo_any _ _ _ g _ _ _ hr3).mono ?_
      rintro e w4 ⟨rfl, hr4, hg4⟩
      have b4 := b3.one hg4 hg (Nat.le_refl _)
      rw [show rdN (rdRest (rdRest bs)) = unfW bs from rfl]
      replace hr4 : Rdr 64 w.heap.size w1.heap.size w4 g (unfRest bs) (unfBad bs) := hr4
      clear hr3 hg4 b3
      generalize unfMore bs = more at *
      generalize unfRest bs = r3 at *
      generalize unfLeast bs = least at *
      generalize unfBad bs = bad at *
      generalize unfW bs = W at *
      generalize rdN bs = N at *
      go_wp2_with (first | (at_make; refine Stop.un ?_) | (at_builtin; refine Stop.un ?_) | (with_reducible refine Stop.conv 24 9 ?_) | (with_reducible refine Stop.conv 9 24 ?_))
      refine (rbado_any _ _ _ g _ _ _ hr4).mono ?_
      rintro e w5 ⟨rfl, rfl⟩
      by_cases hb : bad = true
      · subst hb
        have H2 := Lib.hid (HMID.out (.inl (.inl rfl)))
        clear HMID HOK HUR HUP HDR hr4
        go_wp2_with (first | (at_make; refine Stop.un ?_) | (at_builtin; refine Stop.un ?_) | (with_reducible refine Stop.conv 24 9 ?_) | (with_reducible refine Stop.conv 9 24 ?_))
        go_ret2
        rw [H2.out]
        exact ⟨none, 0, 0, rfl, rfl, Own.nil _ _ b4⟩
      · obtain rfl : bad = false := by simpa using hb
        clear hb
        by_cases hw : 64 < W
        · have H2 := Lib.hid (HMID.out (.inl (.inr hw)))
          clear HMID HOK HUR HUP HDR hr4
          go_wp2_with (first | (at_make; refine Stop.un ?_) | (at_builtin; refine Stop.un ?_) | (with_reducible refine Stop.conv 24 9 ?_) | (with_reducible refine Stop.conv 9 24 ?_))
          go_ret2
          rw [H2.out]
          exact ⟨none, 0, 0, rfl, rfl, Own.nil _ _ b4⟩
        · have hw64 : W ≤ 64 := by omega
          obtain ⟨hdr, hdl⟩ := HDR.out rfl
          rw [HM.out] at hdr hdl
          obtain ⟨k, hk⟩ : ∃ k, m - r3.length = k := ⟨_, rfl⟩
          rw [hk] at hdr
          have HK : Hid ((m : Int) - (r3.length : Int) = (k : Int)) := Lib.hid (by omega)
          have HK2 : Hid (r3.length = m - k) := Lib.hid (by omega)
          have HDRP := Lib.hid hdr
          have hkm : k ≤ m := by omega
          have hr3l : r3.length ≤ m := hdl
          clear hdr hdl hk HDR hw
          go_wp2_with (first | (at_make; refine Stop.un ?_) | (at_builtin; refine Stop.un ?_) | (with_reducible refine Stop.conv 24 9 ?_) | (with_reducible refine Stop.conv 9 24 ?_))
          refine (rlefto_any _ _ _ g _ _ _ hr4).mono ?_
          rintro e w5 ⟨rfl, rfl⟩
          clear hr4
          go_wp2_with (first | (at_make; refine Stop.un ?_) | (at_builtin; refine Stop.un ?_) | (with_reducible refine Stop.conv 24 9 ?_) | (with_reducible refine Stop.conv 9 24 ?_) | (with_reducible refine Stop.slice ?_))
          rw [HK.out]
          refine Stop.mk (wpList_cutB ao m cap k rfl rfl rfl hkm hlc (hc.mono b4 (Nat.le_refl _)) HM.out ?_)
          intro a5 hc5
          rw [HDRP.out] at hc5
          go_wp2_with (first | (at_make; refine Stop.un ?_) | (at_builtin; refine Stop.un ?_) | (with_reducible refine Stop.conv 24 9 ?_) | (with_reducible refine Stop.conv 9 24 ?_))
          refine (HUP.out a5 (m - k) (cap - k) _ hc5 HK2.out (by omega)).mono ?_
          rintro e w6 ⟨a6, n6, c6, h6, rfl, o6⟩
          have le6 := owns_le o6.1
          have mx6 := owns_max o6.1
          have cs6 := Own.cs o6
          have b6 := b4.next (Own.below o6)
          clear o6 hc5 HUP b4 hr3l
          by_cases hu : unpE r3 N W = 0
          · rw [hu]
            rw [HUR.out hu] at h6 cs6
            obtain rfl : n6 = N := by rw [← h6]; exact HML.out
            have HW := Lib.hid (fun w hc => width_any a6 n6 c6 more w hc h6 le6 (Nat.le_trans le6 mx6) (HMX.out hw64))
            have HC := Lib.hid (fun w hc => contains_any a6 n6 c6 more 0 w hc h6 le6 mx6)
            replace HOK := Lib.hid (fun a b c => HOK.out (by trivial) hw64 hu a b c)
            replace HMID := Lib.hid (fun h => HMID.out (.inr (.inr h)))
            have HMM := Lib.hid (HMX.out hw64)
            clear HUR HMX HDRP hu
            go_wp2_with (first | (at_make; refine Stop.un ?_) | (at_builtin; refine Stop.un ?_) | (with_reducible refine Stop.conv 24 9 ?_) | (with_reducible refine Stop.conv 9 24 ?_))
            refine (HW.out _ cs6).mono ?_
            rintro e w7 ⟨rfl, rfl⟩
            by_cases hwid : widN more = W
            · rw [hwid]
              have hq : ((W : Int) != (W : Int)) = false := by simp
              go_wp2_with (first | (at_make; refine Stop.un ?_) | (at_builtin; refine Stop.un ?_) | (with_reducible refine Stop.conv 24 9 ?_) | (with_reducible refine Stop.conv 9 24 ?_))
              refine (HC.out _ cs6).mono ?_
              rintro e w7 ⟨rfl, rfl⟩
              by_cases h00 : 0 ∈ more
              · rw [show decide (0 ∈ more) = true from decide_eq_true h00]
                replace HOK := Lib.hid (fun a => HOK.out hwid h00 a)
                replace HMID := Lib.hid (fun h => HMID.out (.inr h))
                clear hwid h00 HW HC hq hN0
                have hN0 : ((n6 : Int) == 0) = false := by simp; omega
                have HZ : Hid ((List.replicate n6 (0 : Int)).length = n6 ∧ (List.replicate n6 (0 : Int)).take 0 = (more.take 0).map (addW least) ∧ ∀ m ∈ more.take 0, least ≤ addW least m) := Lib.hid (by simp)
                obtain ⟨i0, hi, hz0, hz1, hz2⟩ := info_parts Try.infoI64
                obtain ⟨b, o, rfl⟩ := cs6.addr (by rw [ucells_length, h6]; omega)
                go_wp2_with (first | (at_make; refine Stop.un ?_) | (at_builtin; refine Stop.un ?_) | (with_reducible refine Stop.conv 24 9 ?_) | (with_reducible refine Stop.conv 9 24 ?_))
                refine Stop.mk (wpList_make_full _ rfl _ _ 38 rfl w6.heap.size 3 i0 (.int .i64 0) 1 Try.underlying38 hi hz0 hz1 _ _ _ _ n6 rfl rfl rfl rfl (by rw [hz2]; omega) (by unfold maxLen; omega) (Nat.le_refl _) ?_)
                intro w7 o7 g7
                have b7 : Below w6.heap.size w6 w7 := (Below.refl _ _).grown g7 (Nat.le_refl _) (fun _ h => by cases h)
                have k7 := own_at o7
                rw [show (madeCells (Value.int .i64 0).cells (n6 * 1)).toList = icells (List.replicate n6 0) from by simp [icells, Value.cells, toList_madeCells_one]] at k7
                generalize List.replicate n6 (0 : Int) = xs0 at HZ k7
                have HML2 := Lib.hid h6
                clear o7 g7 hz2 hz1 hz0 hi i0 h6
                go_wp2_with (first | (at_make; refine Stop.un ?_) | (at_builtin; refine Stop.un ?_) | (with_reducible refine Stop.conv 24 9 ?_) | (with_reducible refine Stop.conv 9 24 ?_))
                go_loopw [73] (fun i wr => ∃ (j : Nat) (xs : List Int), j ≤ n6 ∧ i = .int .i64 (j : Int) ∧ Below w6.heap.size w6 wr ∧ At wr w6.heap.size (icells xs).toArray 3 ∧ Hid (xs.length = n6 ∧ xs.take j = (more.take j).map (addW least) ∧ ∀ m ∈ more.take j, least ≤ addW least m)) (fun i _ => n6 - (intOf i).toNat)
                case atStart => exact ⟨0, xs0, Nat.zero_le _, rfl, b7, k7, HZ⟩
                case round =>
                  clear HZ b7 k7
                  obtain ⟨j, xs, hj, rfl, b1, z, HX⟩ := hrel
                  by_cases hlt : j < n6
                  · have hjl : j < more.length := by have := HML2.out; omega
                    have hxl : j < xs.length := by have := HX.out.1; omega
                    have x1 : wr.cell? ⟨b, o + j, none⟩ = some (.int .u64 ((more[j] : Nat) : Int)) := (cs6.mono b1 (Nat.le_refl _)).at (by simp [ucells, hjl])
                    have f0 := z.free j
                    have x3 : wr.cell? ⟨w6.heap.size, j, none⟩ = some (.int .i64 xs[j]) := z.cell j (by simp [icells, hxl])
                    have zl := z.lt
                    generalize xs[j] = old at x3
                    have hyy : more[j] < 18446744073709551616 := HMM.out _ (List.getElem_mem _)
                    have hmem : more[j] ∈ more := List.getElem_mem _
                    have hT := take_snoc_eq hjl
                    have hHX : least ≤ addW least more[j] → Hid ((xs.set j (addW least more[j])).length = n6 ∧ (xs.set j (addW least more[j])).take (j + 1) = (more.take (j + 1)).map (addW least) ∧ ∀ m ∈ more.take (j + 1), least ≤ addW least m) := fun hle => Lib.hid (by
                      refine ⟨by rw [List.length_set]; exact HX.out.1, ?_, ?_⟩
                      · rw [hT, List.map_append, List.take_succ_eq_append_getElem (by rw [List.length_set]; exact hxl), List.take_set_of_le (Nat.le_refl _), HX.out.2.1, List.getElem_set_self]
                        rfl
                      · intro m hm
                        rw [hT, List.mem_append, List.mem_singleton] at hm
                        rcases hm with hm | rfl
                        · exact HX.out.2.2 m hm
                        · exact hle)
                    have HHX := Lib.hid hHX
                    generalize more[j] = y at x1 hyy hmem HHX
                    clear hT hHX
                    have HMEM := Lib.hid hmem
                    clear hmem
                    go_upto_region 18 with fail
                    rw [addW_wrap]
                    have HLOW : Hid (addW least y < least → unfO bs = none) := Lib.hid (fun h => HMID.out (fun h2 => by have := h2 y HMEM.out; omega))
                    have z2 := z.putI (i := j) (addW least y)
                    have b2 := b1.setCell (p := ⟨w6.heap.size, j, none⟩) (Nat.le_refl _) (.int .i64 (addW least y))
                    have x4 : (wr.setCell ⟨w6.heap.size, j, none⟩ (.int .i64 (addW least y))).cell? ⟨w6.heap.size, j, none⟩ = some (.int .i64 (addW least y)) := z2.cell j (by simp [icells, hxl])
                    clear HMEM HX z b1 x1 x3 f0
                    generalize addW least y = v at *
                    generalize wr.setCell ⟨w6.heap.size, j, none⟩ (.int .i64 v) = w9 at *
                    by_cases hlo : v < least
                    · have H2 := Lib.hid (HLOW.out hlo)
                      replace b6 := b6.next b2
                      clear HHX HLOW HMID HOK z2
                      go_wp2_with (first | (at_make; refine Stop.un ?_) | (at_builtin; refine Stop.un ?_) | (with_reducible refine Stop.conv 24 9 ?_) | (with_reducible refine Stop.conv 9 24 ?_))
                      go_ret2
                      rw [H2.out]
                      exact ⟨none, 0, 0, rfl, rfl, Own.nil _ _ b6⟩
                    · have H2 := HHX.out (by omega)
                      clear HHX HLOW
                      go_wp2_with (first | (at_make; refine Stop.un ?_) | (at_builtin; refine Stop.un ?_) | (with_reducible refine Stop.conv 24 9 ?_) | (with_reducible refine Stop.conv 9 24 ?_))
                      go_roundw
                      case rel => exact ⟨j + 1, _, by omega, by go_num, b2, z2, H2⟩
                      case measure => simp [intOf]; omega
                  · have hjm : j = n6 := by omega
                    subst hjm
                    obtain ⟨e1, e2, e3⟩ := HX.out
                    rw [List.take_of_length_le (by omega), List.take_of_length_le (by rw [HML2.out]; omega)] at e2
                    rw [List.take_of_length_le (by rw [HML2.out]; omega)] at e3
                    have H2 := Lib.hid (HOK.out e3)
                    rw [e2] at z
                    have HL : Hid ((more.map (addW least)).length = j) := Lib.hid (by rw [List.length_map, HML2.out])
                    have hO : OwnI w wr (.slice (some ⟨w6.heap.size, 0, none⟩) j j) j (more.map (addW least)) := Own.up (At.own z b1 (Nat.le_refl _) j (by rw [icells_length]; exact HL.out) (by unfold maxLen; omega)) b6
                    clear HX e1 e2 e3 hlt hj HMID HOK HMM z
                    go_wp2_with (first | (at_make; refine Stop.un ?_) | (at_builtin; refine Stop.un ?_) | (with_reducible refine Stop.conv 24 9 ?_) | (with_reducible refine Stop.conv 9 24 ?_))
                    go_ret2
                    rw [H2.out]
                    exact ⟨_, _, _, HL.out, rfl, hO⟩
              · rw [show decide (0 ∈ more) = false from decide_eq_false h00]
                have H2 := Lib.hid (HMID.out (.inl (.inr h00)))
                clear HMID HOK HW HC cs6 hwid h00 hq
                go_wp2_with (first | (at_make; refine Stop.un ?_) | (at_builtin; refine Stop.un ?_) | (with_reducible refine Stop.conv 24 9 ?_) | (with_reducible refine Stop.conv 9 24 ?_))
                go_ret2
                rw [H2.out]
                exact ⟨none, 0, 0, rfl, rfl, Own.nil _ _ b6⟩
            · have hq : ((widN more : Int) != (W : Int)) = true := by simp; omega
              have H2 := Lib.hid (HMID.out (.inl (.inl hwid)))
              clear HMID HOK HW HC cs6 hwid
              go_wp2_with (first | (at_make; refine Stop.un ?_) | (at_builtin; refine Stop.un ?_) | (with_reducible refine Stop.conv 24 9 ?_) | (with_reducible refine Stop.conv 9 24 ?_))
              go_ret2
              rw [H2.out]
              exact ⟨none, 0, 0, rfl, rfl, Own.nil _ _ b6⟩
          · have hq : (unpE r3 N W != 0) = true := by simpa using hu
            have H2 := Lib.hid (HMID.out (.inr (.inl hu)))
            clear HMID HOK HUR HDRP cs6 hu
            generalize unpE r3 N W = er at hq ⊢
            go_wp2_with (first | (at_make; refine Stop.un ?_) | (at_builtin; refine Stop.un ?_) | (with_reducible refine Stop.conv 24 9 ?_) | (with_reducible refine Stop.conv 9 24 ?_))
            go_ret2
            rw [H2.out]
            exact ⟨none, 0, 0, rfl, rfl, Own.nil _ _ b6⟩
end Go.Proofs.Ytcjnehlbkjpgbaa
