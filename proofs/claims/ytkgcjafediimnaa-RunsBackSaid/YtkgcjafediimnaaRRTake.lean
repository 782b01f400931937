/- What the reference's Take of runs returns. -/
import Derived.Test.YtkgcjafediimnaaRTake
set_option linter.unusedVariables false
set_option linter.unusedSimpArgs false
namespace Go.Proofs.Ytkgcjafediimnaa
open Go.RowKit
theorem rGo_step (k : Nat) (r : List UInt8) (out : List Rn) : rGo (k + 1) r false out = if 4096 < rdN (rdRest r) then none else rGo k (rest2 r) (rdBad r || rdBad (rdRest r)) (out ++ [one1 r]) := by simp [rGo, bad2]
def KIn (out : List Rn) : Prop := ∀ y ∈ out, InR y.n
theorem KIn.step {out : List Rn} {r : List UInt8} (h : KIn out) : KIn (out ++ [one1 r]) := by
  intro y hy
  rcases List.mem_append.1 hy with hy | hy
  · exact h y hy
  · rw [List.mem_singleton.1 hy]; exact zag_in (rdN_lt r)
theorem KIn.flat {out : List Rn} (h : KIn out) : ∀ n ∈ flatE out, -9223372036854775808 ≤ n ∧ n ≤ 9223372036854775807 := by
  intro n hn
  unfold flatE at hn
  split at hn
  · obtain ⟨y, hy, hny⟩ := List.mem_flatMap.1 hn
    rw [(List.mem_replicate.1 hny).2]
    exact h y hy
  · cases hn
set_option maxHeartbeats 4000000 in
set_option maxRecDepth 100000 in
theorem rtake_any (ao : Option Addr) (m cap : Nat) (bs : List UInt8) (w : World) (hc : Cs w ao (bcells bs)) (hm : bs.length = m) (hl : m ≤ 4000000000) :
    Calls Try.prog 24 #[.slice ao m cap] w (RetK w (takeO bs)) := by
  have hroom : Room m 0 (rdRest bs) (rdBad bs) := ⟨by omega, fun h => by have := rd_shorter h; omega⟩
  have HM := Lib.hid hm; clear hm
  rw [← refO_eq bs]
  have ht : refO bs = refO bs := rfl
  conv at ht => rhs; unfold refO
  generalize hp : rGo (rdN bs) (rdRest bs) (rdBad bs) [] = P at ht
  have HT := Lib.hid ht
  have HP := Lib.hid hp
  clear ht hp
  go_enter Try.func24, Try.ntmps24
  go_wp2_with (first | (at_make; refine Stop.un ?_) | (at_builtin; refine Stop.un ?_) | (with_reducible refine Stop.conv 24 9 ?_) | (with_reducible refine Stop.conv 9 24 ?_))
  have hO : OwnB w (w.alloc (.cells #[] 5)) (.slice (some ⟨w.heap.size, 0, none⟩) 0 0) 0 [] := Own.block (Below.refl _ _) rfl (by decide)
  refine Stop.mk (app_bs w _ _ rfl rfl hO rfl rfl HM.out (hc.alloc _) (by omega) ?_)
  intro ao4 cap4 w4 hO4
  simp only [Nat.zero_add, List.nil_append] at hO4
  clear hO
  have b4 := Own.below hO4
  have hw4 : w.heap.size ≤ w4.heap.size := Own.le hO4
  have hr2 : Rdr 58 w.heap.size (w4.heap.size + 1) (w4.alloc (.cells #[.slice ao4 m cap4, .bool false] 58)) w4.heap.size bs false := by
    have hlt := Own.lt hO4
    have hge := Own.ge hO4
    refine ⟨ao4, m, cap4, _root_.Go.heap_alloc_new w4 _, HM.out, owns_le hO4.1, by omega, (Own.cs hO4).alloc _, ⟨hw4, by omega⟩, ?_⟩
    intro a ha
    have h1 := hlt a.block (by subst ha; rfl)
    have h2 := hge a.block (by subst ha; rfl)
    exact ⟨by omega, h2, by omega⟩
  have b5 := b4.alloc b4.size (.cells #[.slice ao4 m cap4, .bool false] 58)
  clear hO4 b4
  go_wp2_with (first | (at_make; refine Stop.un ?_) | (at_builtin; refine Stop.un ?_) | (with_reducible refine Stop.conv 24 9 ?_) | (with_reducible refine Stop.conv 9 24 ?_))
  have hsz : w4.heap.size + 1 ≤ (w4.alloc (.cells #[.slice ao4 m cap4, .bool false] 58)).heap.size := by simp
  generalize hW5 : w4.alloc (.cells #[.slice ao4 m cap4, .bool false] 58) = w5 at hr2 b5 hsz
  clear hW5
  generalize w4.heap.size = g at hr2 hw4 hsz
  refine (rrnum_any _ _ _ g _ _ _ hr2).mono ?_
  rintro e w6 ⟨rfl, hr3, hg3⟩
  have b6 := b5.one hg3 hw4 (Nat.le_refl _)
  have hT6 : g + 1 ≤ w6.heap.size := Nat.le_trans hsz hg3.size
  rw [Bool.false_or] at hr3
  have hN := rdN_lt bs
  generalize rdN bs = N at hN HP
  clear hr2 hg3 b5 hsz
  go_wp2_with (first | (at_make; refine Stop.un ?_) | (at_builtin; refine Stop.un ?_) | (with_reducible refine Stop.conv 24 9 ?_) | (with_reducible refine Stop.conv 9 24 ?_))
  go_loopw [5, 6, 7, 8] (fun v c _ _ wr => ∃ (q j : Nat) (ab : Option Addr) (cb : Nat) (r : List UInt8) (bad : Bool) (out : List Rn), q ≤ N ∧ Hid (Room m j r bad) ∧ Hid (KIn out) ∧ c = .int .u64 (q : Int) ∧ v = .slice ab j cb ∧ OwnR w wr (.slice ab j cb) j out ∧ Hid (∀ k, (Value.slice ab j cb).ownBlock = some k → g + 1 ≤ k) ∧ Rdr 58 w.heap.size (g + 1) wr g r bad ∧ g + 1 ≤ wr.heap.size ∧ Hid (rGo q r bad out = P)) (fun _ c _ _ _ => (intOf c).toNat)
  case atStart => exact ⟨N, 0, none, 0, _, _, [], by omega, Lib.hid hroom, Lib.hid (fun y hy => by simp at hy), rfl, rfl, Own.nil _ _ b6, Lib.hid (fun k hk => by cases hk), hr3, hT6, HP⟩
  case round =>
    clear hr3 hT6 b6 HP hroom
    obtain ⟨q, j, ab, cb, r, bad, out, hqN, HR, HKO, rfl, rfl, hO, HK, hr, hTw, HP⟩ := hrel
    have h1 : wr.cell? ⟨g, 1, none⟩ = some (.bool bad) := by
      obtain ⟨_, _, _, hh, _⟩ := hr
      simpa using cell_of hh 1
    by_cases hgo : 0 < q ∧ bad = false
    · obtain ⟨hq, rfl⟩ := hgo
      obtain ⟨p, rfl⟩ : ∃ p, q = p + 1 := ⟨q - 1, by omega⟩
      have hk := HP.out
      rw [rGo_step] at hk
      have HP2 := Lib.hid hk
      have HR2 := Lib.hid HR.out.step
      have HKO2 : Hid (KIn (out ++ [one1 r])) := Lib.hid HKO.out.step
      have hjm := HR.out.1
      clear hk HP
      go_wp2_with (first | (at_make; refine Stop.un ?_) | (at_builtin; refine Stop.un ?_) | (with_reducible refine Stop.conv 24 9 ?_) | (with_reducible refine Stop.conv 9 24 ?_))
      refine (rrint_any _ _ _ g _ _ _ hr).mono ?_
      rintro e w3 ⟨rfl, hr3, hg3⟩
      have hO3 := Own.past hO hg3 hw4 (fun e => by have := HK.out _ e; omega)
      have hT3 : g + 1 ≤ w3.heap.size := Nat.le_trans hTw hg3.size
      rw [Bool.false_or] at hr3
      have h2 : one1 r = ⟨zag (rdN r), min (rdN (rdRest r)) 4097⟩ := rfl
      rw [h2] at HP2 HKO2
      unfold rest2 at HP2 HR2
      clear hO hr hg3 hTw h1 h2
      generalize zag (rdN r) = n1 at HP2 HKO2 ⊢
      go_wp2_with (first | (at_make; refine Stop.un ?_) | (at_builtin; refine Stop.un ?_) | (with_reducible refine Stop.conv 24 9 ?_) | (with_reducible refine Stop.conv 9 24 ?_))
      have zr := At.new w3 #[.int .i64 n1, .int .i64 0] 34
      have bz := (Below.refl w3.heap.size w3).alloc (Nat.le_refl _) (.cells #[.int .i64 n1, .int .i64 0] 34)
      replace hr3 := hr3.below bz
      have hO3b := hO3.keep bz
      have hz3 : w3.heap.size < (w3.alloc (.cells #[.int .i64 n1, .int .i64 0] 34)).heap.size := by simp
      have HZ : Hid (∀ k, (Value.slice ab j cb).ownBlock = some k → k < w3.heap.size) := Lib.hid (fun k hk => hO3.lt k hk)
      clear hO3 bz
      generalize w3.alloc (.cells #[.int .i64 n1, .int .i64 0] 34) = wz at hr3 zr hO3b hz3 ⊢
      generalize w3.heap.size = h at zr hT3 hz3 HZ ⊢
      refine (rrnum_any _ _ _ g _ _ _ hr3).mono ?_
      rintro e w7 ⟨rfl, hr4, hg4⟩
      have hO4 := Own.past hO3b hg4 hw4 (fun e => by have := HK.out _ e; omega)
      have zr4 := zr.grown hg4 (fun e => by cases e; omega)
      have hz4 : h < w7.heap.size := Nat.lt_of_lt_of_le hz3 hg4.size
      have hn2 := rdN_lt (rdRest r)
      clear hO3b hr3 hg4 zr hz3
      generalize rdRest (rdRest r) = r2 at HP2 HR2 hr4
      generalize (rdBad r || rdBad (rdRest r)) = bb at HP2 HR2 hr4
      generalize rdN (rdRest r) = n2 at HP2 HKO2 hn2 ⊢
      by_cases hbig : 4096 < n2
      · have hP : P = none := by rw [← HP2.out, if_pos hbig]
        have hT := HT.out
        rw [hP] at hT
        have HT2 : Hid (refO bs = none) := Lib.hid hT
        have b7 := Own.below hO4
        clear hP hT HP2 hO4 hr4
        go_wp2_with (first | (at_make; refine Stop.un ?_) | (at_builtin; refine Stop.un ?_) | (with_reducible refine Stop.conv 24 9 ?_) | (with_reducible refine Stop.conv 9 24 ?_))
        go_ret2
        rw [HT2.out]
        exact ⟨none, 0, 0, rfl, rfl, Own.nil _ _ b7⟩
      · have hP := HP2.out
        rw [if_neg hbig] at hP
        have HP3 := Lib.hid hP
        have hmn : min (n2 : Int) 4097 = n2 := by omega
        rw [hmn] at HP3 HKO2
        have z0 := zr4.cell 0 rfl
        have z1 := zr4.cell 1 rfl
        have f1 := zr4.free 1
        clear hP HP2 hmn
        go_wp2_with (first | (at_make; refine Stop.un ?_) | (at_builtin; refine Stop.un ?_) | (with_reducible refine Stop.conv 24 9 ?_) | (with_reducible refine Stop.conv 9 24 ?_))
        have hO5 : OwnR w (w7.setCell ⟨h, 1, none⟩ (.int .i64 (n2 : Int))) (.slice ab j cb) j out := Own.far hO4 ⟨h, 1, none⟩ _ (by show w.heap.size ≤ h; omega) (fun e => by have := HZ.out _ e; simp at this)
        have hr5 := hr4.other (grown_set w7 h 1 (.int .i64 (n2 : Int))) (.inr hT3)
        have hT5 : h < (w7.setCell ⟨h, 1, none⟩ (.int .i64 (n2 : Int))).heap.size := by simpa using hz4
        clear hO4 hr4 z0 z1 f1 zr4 hz4
        rw [show w7.heap.size = (w7.setCell ⟨h, 1, none⟩ (.int .i64 (n2 : Int))).heap.size from by simp [World.setCell]]
        generalize w7.setCell ⟨h, 1, none⟩ (.int .i64 (n2 : Int)) = w8 at hO5 hr5 hT5 ⊢
        refine Stop.mk (app_r1 w _ _ rfl rfl hO5 rfl rfl (by omega) ?_)
        intro a6 c6 w9 hO6 hg6 hk6
        have hr6 := hr5.row hg6 (fun k e => .inr (HK.out k e))
        have hT6 : g + 1 ≤ w9.heap.size := by have := hg6.size; omega
        have HK6 : Hid (∀ k, (Value.slice a6 (j + 1) c6).ownBlock = some k → g + 1 ≤ k) := Lib.hid (fun k e => (hk6 k e).elim (fun e1 => HK.out k e1) (fun h => by omega))
        clear hO5 hr5 hT5 hg6 hk6 HZ hT3
        go_wp2_with (first | (at_make; refine Stop.un ?_) | (at_builtin; refine Stop.un ?_) | (with_reducible refine Stop.conv 24 9 ?_) | (with_reducible refine Stop.conv 9 24 ?_))
        go_roundw
        case rel => exact ⟨p, j + 1, a6, c6, _, _, _, by omega, HR2, HKO2, by go_num, rfl, hO6, HK6, hr6, hT6, HP3⟩
        case measure => simp [intOf] <;> omega
    · have hP : P = some (out, r, bad) := by
        rw [← HP.out]
        cases bad with
        | true => exact rGo_bad _ _ _
        | false => have : q = 0 := by simp at hgo; omega
                   subst this; rfl
      have hx : q = 0 ∨ (0 < q ∧ bad = true) := by
        cases bad with
        | true => rcases Nat.eq_zero_or_pos q with h | h
                  · exact .inl h
                  · exact .inr ⟨h, rfl⟩
        | false => simp at hgo; omega
      have hT := HT.out
      rw [hP] at hT
      have HT2 : Hid (refO bs = refE bs (out, r, bad)) := Lib.hid hT
      have HOL := Lib.hid (OwnR.length hO)
      have hcap := owns_max hO.1
      have hle := owns_le hO.1
      have HFl := Lib.hid (fun w hc => rflat_any ab j cb out w hc HOL.out hle hcap)
      have HPu := Lib.hid (fun (ao : Option Addr) (m cap : Nat) (w : World) hc hm hl hcm h5 => rput_any ao m cap (flatE out) w hc hm hl hcm h5 HKO.out.flat)
      have hfl := flatE_len out
      have hcs := Own.cs hO
      have b1 := Own.below hO
      clear hgo hP hT HT HP HK hO hTw hcap HKO
      unfold refE at HT2
      simp only at HT2
      generalize flatE out = fl at HT2 HFl HPu hfl
      generalize errR out = er at HT2 HFl
      rcases hx with rfl | ⟨hq, rfl⟩
      ·
        go_wp2_with (first | (at_make; refine Stop.un ?_) | (at_builtin; refine Stop.un ?_) | (with_reducible refine Stop.conv 24 9 ?_) | (with_reducible refine Stop.conv 9 24 ?_))
        refine (HFl.out _ hcs).mono ?_
        rintro e w5 ⟨a5, n5, c5, h5, rfl, o5⟩
        clear HFl hcs
        replace hr := hr.below (Own.below o5)
        replace o5 := Own.up o5 b1
        have H5 := Lib.hid h5
        have hn5 : n5 ≤ 4096 := by omega
        have b2 := Own.below o5
        clear h5 b1 h1
        go_wp2_with (first | (at_make; refine Stop.un ?_) | (at_builtin; refine Stop.un ?_) | (with_reducible refine Stop.conv 24 9 ?_) | (with_reducible refine Stop.conv 9 24 ?_))
        refine (rrend_any _ _ _ g _ _ _ hr).mono ?_
        rintro e w6 ⟨rfl, rfl⟩
        clear hr
        by_cases hE : endE r bad = 0
        ·
          rw [hE]
          by_cases he : er = 0
          ·
            subst he
            have h2 : refO bs = if putR fl = bs then some fl else none := by rw [HT2.out]; simp only [hE, true_and]
            have H2 := Lib.hid h2
            clear h2 hE HT2
            go_wp2_with (first | (at_make; refine Stop.un ?_) | (at_builtin; refine Stop.un ?_) | (with_reducible refine Stop.conv 24 9 ?_) | (with_reducible refine Stop.conv 9 24 ?_))
            refine (HPu.out a5 n5 c5 _ (Own.cs o5) H5.out (owns_le o5.1) (owns_max o5.1) (by omega)).mono ?_
            rintro e w7 ⟨a7, n7, c7, h7, rfl, o7⟩
            have H7 := Lib.hid h7
            have hO7 := Own.keep o5 (Own.below o7)
            have hm7 := hc.mono (Own.below hO7) (Nat.le_refl _)
            have hc7 := Own.cs o7
            clear h7 o5 o7 HPu b2
            generalize putC fl = pc
            by_cases hB : putR fl = bs
            ·
              rw [hB] at hc7
              have H3 : Hid (refO bs = some fl) := Lib.hid (by rw [H2.out, if_pos hB])
              have H6 : Hid (bs.length = n7) := Lib.hid (by rw [← H7.out, hB])
              have hbb : (!(strOf bs).toList == (strOf bs).toList) = false := by simp
              clear H2 hB H7
              go_wp2_with (first | (at_make; refine Stop.un ?_) | (at_builtin; refine Stop.un ?_) | (with_reducible refine Stop.conv 24 9 ?_) | (with_reducible refine Stop.conv 9 24 ?_))
              refine Stop.mk (wpList_conv Try.underlying24 Try.underlying5 Try.underlying9 _ rfl rfl rfl H6.out hc7 ?_)
              clear hc7
              go_wp2_with (first | (at_make; refine Stop.un ?_) | (at_builtin; refine Stop.un ?_) | (with_reducible refine Stop.conv 24 9 ?_) | (with_reducible refine Stop.conv 9 24 ?_))
              refine Stop.mk (wpList_conv Try.underlying24 Try.underlying5 Try.underlying9 _ rfl rfl rfl HM.out hm7 ?_)
              clear hm7
              go_wp2_with (first | (at_make; refine Stop.un ?_) | (at_builtin; refine Stop.un ?_) | (with_reducible refine Stop.conv 24 9 ?_) | (with_reducible refine Stop.conv 9 24 ?_))
              go_ret2
              rw [H3.out]
              exact ⟨_, _, _, H5.out, rfl, hO7⟩
            ·
              have H3 : Hid (refO bs = none) := Lib.hid (by rw [H2.out, if_neg hB])
              have hne : (!(strOf (putR fl)).toList == (strOf bs).toList) = true := by rw [strOf_toList', strOf_toList']; simpa using hB
              clear H2 hB
              go_wp2_with (first | (at_make; refine Stop.un ?_) | (at_builtin; refine Stop.un ?_) | (with_reducible refine Stop.conv 24 9 ?_) | (with_reducible refine Stop.conv 9 24 ?_))
              refine Stop.mk (wpList_conv Try.underlying24 Try.underlying5 Try.underlying9 _ rfl rfl rfl H7.out hc7 ?_)
              clear hc7
              go_wp2_with (first | (at_make; refine Stop.un ?_) | (at_builtin; refine Stop.un ?_) | (with_reducible refine Stop.conv 24 9 ?_) | (with_reducible refine Stop.conv 9 24 ?_))
              refine Stop.mk (wpList_conv Try.underlying24 Try.underlying5 Try.underlying9 _ rfl rfl rfl HM.out hm7 ?_)
              clear hm7
              go_wp2_with (first | (at_make; refine Stop.un ?_) | (at_builtin; refine Stop.un ?_) | (with_reducible refine Stop.conv 24 9 ?_) | (with_reducible refine Stop.conv 9 24 ?_))
              go_ret2
              rw [H3.out]
              exact ⟨none, 0, 0, rfl, rfl, Own.nil _ _ (Own.below hO7)⟩
          ·
            have h2 : refO bs = none := by rw [HT2.out]; exact if_neg (fun h => he h.2.1)
            have H2 := Lib.hid h2
            have hne : (er != 0) = true := by simpa using he
            clear h2 hE HT2 he
            go_wp2_with (first | (at_make; refine Stop.un ?_) | (at_builtin; refine Stop.un ?_) | (with_reducible refine Stop.conv 24 9 ?_) | (with_reducible refine Stop.conv 9 24 ?_))
            go_ret2
            rw [H2.out]
            exact ⟨none, 0, 0, rfl, rfl, Own.nil _ _ b2⟩
        ·
          have h2 : refO bs = none := by rw [HT2.out]; exact if_neg (fun h => hE h.1)
          have H2 := Lib.hid h2
          have h6 : endE r bad = 6 := by unfold endE at *; split <;> simp_all
          rw [h6]
          clear h2 hE h6 HT2
          go_wp2_with (first | (at_make; refine Stop.un ?_) | (at_builtin; refine Stop.un ?_) | (with_reducible refine Stop.conv 24 9 ?_) | (with_reducible refine Stop.conv 9 24 ?_))
          go_ret2
          rw [H2.out]
          exact ⟨none, 0, 0, rfl, rfl, Own.nil _ _ b2⟩
      ·
        go_wp2_with (first | (at_make; refine Stop.un ?_) | (at_builtin; refine Stop.un ?_) | (with_reducible refine Stop.conv 24 9 ?_) | (with_reducible refine Stop.conv 9 24 ?_))
        refine (HFl.out _ hcs).mono ?_
        rintro e w5 ⟨a5, n5, c5, h5, rfl, o5⟩
        clear HFl hcs
        replace hr := hr.below (Own.below o5)
        replace o5 := Own.up o5 b1
        have H5 := Lib.hid h5
        have hn5 : n5 ≤ 4096 := by omega
        have b2 := Own.below o5
        clear h5 b1 h1
        go_wp2_with (first | (at_make; refine Stop.un ?_) | (at_builtin; refine Stop.un ?_) | (with_reducible refine Stop.conv 24 9 ?_) | (with_reducible refine Stop.conv 9 24 ?_))
        refine (rrend_any _ _ _ g _ _ _ hr).mono ?_
        rintro e w6 ⟨rfl, rfl⟩
        clear hr
        by_cases hE : endE r true = 0
        ·
          rw [hE]
          by_cases he : er = 0
          ·
            subst he
            have h2 : refO bs = if putR fl = bs then some fl else none := by rw [HT2.out]; simp only [hE, true_and]
            have H2 := Lib.hid h2
            clear h2 hE HT2
            go_wp2_with (first | (at_make; refine Stop.un ?_) | (at_builtin; refine Stop.un ?_) | (with_reducible refine Stop.conv 24 9 ?_) | (with_reducible refine Stop.conv 9 24 ?_))
            refine (HPu.out a5 n5 c5 _ (Own.cs o5) H5.out (owns_le o5.1) (owns_max o5.1) (by omega)).mono ?_
            rintro e w7 ⟨a7, n7, c7, h7, rfl, o7⟩
            have H7 := Lib.hid h7
            have hO7 := Own.keep o5 (Own.below o7)
            have hm7 := hc.mono (Own.below hO7) (Nat.le_refl _)
            have hc7 := Own.cs o7
            clear h7 o5 o7 HPu b2
            generalize putC fl = pc
            by_cases hB : putR fl = bs
            ·
              rw [hB] at hc7
              have H3 : Hid (refO bs = some fl) := Lib.hid (by rw [H2.out, if_pos hB])
              have H6 : Hid (bs.length = n7) := Lib.hid (by rw [← H7.out, hB])
              have hbb : (!(strOf bs).toList == (strOf bs).toList) = false := by simp
              clear H2 hB H7
              go_wp2_with (first | (at_make; refine Stop.un ?_) | (at_builtin; refine Stop.un ?_) | (with_reducible refine Stop.conv 24 9 ?_) | (with_reducible refine Stop.conv 9 24 ?_))
              refine Stop.mk (wpList_conv Try.underlying24 Try.underlying5 Try.underlying9 _ rfl rfl rfl H6.out hc7 ?_)
              clear hc7
              go_wp2_with (first | (at_make; refine Stop.un ?_) | (at_builtin; refine Stop.un ?_) | (with_reducible refine Stop.conv 24 9 ?_) | (with_reducible refine Stop.conv 9 24 ?_))
              refine Stop.mk (wpList_conv Try.underlying24 Try.underlying5 Try.underlying9 _ rfl rfl rfl HM.out hm7 ?_)
              clear hm7
              go_wp2_with (first | (at_make; refine Stop.un ?_) | (at_builtin; refine Stop.un ?_) | (with_reducible refine Stop.conv 24 9 ?_) | (with_reducible refine Stop.conv 9 24 ?_))
              go_ret2
              rw [H3.out]
              exact ⟨_, _, _, H5.out, rfl, hO7⟩
            ·
              have H3 : Hid (refO bs = none) := Lib.hid (by rw [H2.out, if_neg hB])
              have hne : (!(strOf (putR fl)).toList == (strOf bs).toList) = true := by rw [strOf_toList', strOf_toList']; simpa using hB
              clear H2 hB
              go_wp2_with (first | (at_make; refine Stop.un ?_) | (at_builtin; refine Stop.un ?_) | (with_reducible refine Stop.conv 24 9 ?_) | (with_reducible refine Stop.conv 9 24 ?_))
              refine Stop.mk (wpList_conv Try.underlying24 Try.underlying5 Try.underlying9 _ rfl rfl rfl H7.out hc7 ?_)
              clear hc7
              go_wp2_with (first | (at_make; refine Stop.un ?_) | (at_builtin; refine Stop.un ?_) | (with_reducible refine Stop.conv 24 9 ?_) | (with_reducible refine Stop.conv 9 24 ?_))
              refine Stop.mk (wpList_conv Try.underlying24 Try.underlying5 Try.underlying9 _ rfl rfl rfl HM.out hm7 ?_)
              clear hm7
              go_wp2_with (first | (at_make; refine Stop.un ?_) | (at_builtin; refine Stop.un ?_) | (with_reducible refine Stop.conv 24 9 ?_) | (with_reducible refine Stop.conv 9 24 ?_))
              go_ret2
              rw [H3.out]
              exact ⟨none, 0, 0, rfl, rfl, Own.nil _ _ (Own.below hO7)⟩
          ·
            have h2 : refO bs = none := by rw [HT2.out]; exact if_neg (fun h => he h.2.1)
            have H2 := Lib.hid h2
            have hne : (er != 0) = true := by simpa using he
            clear h2 hE HT2 he
            go_wp2_with (first | (at_make; refine Stop.un ?_) | (at_builtin; refine Stop.un ?_) | (with_reducible refine Stop.conv 24 9 ?_) | (with_reducible refine Stop.conv 9 24 ?_))
            go_ret2
            rw [H2.out]
            exact ⟨none, 0, 0, rfl, rfl, Own.nil _ _ b2⟩
        ·
          have h2 : refO bs = none := by rw [HT2.out]; exact if_neg (fun h => hE h.1)
          have H2 := Lib.hid h2
          have h6 : endE r true = 6 := by unfold endE at *; split <;> simp_all
          rw [h6]
          clear h2 hE h6 HT2
          go_wp2_with (first | (at_make; refine Stop.un ?_) | (at_builtin; refine Stop.un ?_) | (with_reducible refine Stop.conv 24 9 ?_) | (with_reducible refine Stop.conv 9 24 ?_))
          go_ret2
          rw [H2.out]
          exact ⟨none, 0, 0, rfl, rfl, Own.nil _ _ b2⟩
end Go.Proofs.Ytkgcjafediimnaa
