/- What runs.Take returns. -/
import Derived.Test.YtkgcjafediimnaaRTakeP
import Derived.Test.YtkgcjafediimnaaRRdr
set_option linter.unusedVariables false
set_option linter.unusedSimpArgs false
namespace Go.Proofs.Ytkgcjafediimnaa
open Go.RowKit
/-- Ints of the call's own, and a kind. -/
def RetK (w : World) (o : Option (List Int)) : Ending → World → Prop := fun e w' =>
  ∃ (ao : Option Addr) (n cap : Nat), (o.getD []).length = n ∧ e = .returned (.tuple #[.slice ao n cap, .int .i64 (tkC o)]) ∧ OwnI w w' (.slice ao n cap) n (o.getD [])
theorem Own.past {w0 w w' : World} {e size n g : Nat} {v : Value} {xs : List Value} (h : Own w0 w e size v n xs) (hg : w.grownBy w' (some g)) (hge : w0.heap.size ≤ g) (hne : v.ownBlock ≠ some g) : Own w0 w' e size v n xs :=
  ⟨h.1.kept hg (.inr hne), h.2.one hg hge (Nat.le_refl _)⟩
theorem Rdr.row {e : TypeId} {B T : Nat} {w w' : World} {g : Nat} {l : List UInt8} {bad : Bool} {row : Option Nat} (h : Rdr e B T w g l bad) (hg : w.grownBy w' row) (h1 : ∀ k, row = some k → k < B ∨ T ≤ k) : Rdr e B T w' g l bad := by
  cases row with
  | none => exact h.other (g' := T) ⟨hg.os, hg.tape, hg.output, hg.size, fun k hk _ => hg.block k hk (by simp)⟩ (.inr (Nat.le_refl _))
  | some k => exact h.other hg (h1 k rfl)
theorem kGo_step (k : Nat) (r : List UInt8) (out : List Rn) : kGo (k + 1) r false out = kGo k (rest2 r) (rdBad r || rdBad (rdRest r)) (out ++ [one1 r]) := by simp [kGo, bad2]
/-- How much is left, and how many there are. -/
def Room (m j : Nat) (r : List UInt8) (bad : Bool) : Prop := j ≤ m + 1 ∧ (bad = false → j + r.length ≤ m)
theorem Room.step {m j : Nat} {r : List UInt8} (h : Room m j r false) : Room m (j + 1) (rest2 r) (rdBad r || rdBad (rdRest r)) := by
  refine ⟨by have := h.2 rfl; omega, fun hb => ?_⟩
  rw [Bool.or_eq_false_iff] at hb
  have h1 := rd_shorter hb.1
  have h2 := rd_shorter hb.2
  have := h.2 rfl
  unfold rest2
  omega
def KOk (out : List Rn) : Prop := ∀ y ∈ out, y.k ≤ 9223372036854775807
theorem KOk.step {out : List Rn} {r : List UInt8} (h : KOk out) : KOk (out ++ [one1 r]) := by
  intro y hy
  rcases List.mem_append.1 hy with hy | hy
  · exact h y hy
  · rw [List.mem_singleton.1 hy]; simp only [one1]; omega
set_option maxHeartbeats 4000000 in
theorem take_any (ao : Option Addr) (m cap : Nat) (bs : List UInt8) (w : World) (hc : Cs w ao (bcells bs)) (hm : bs.length = m) (hl : m ≤ 4000000000) :
    Calls Try.prog 23 #[.slice ao m cap] w (RetK w (takeO bs)) := by
  have hroom : Room m 0 (rdRest bs) (rdBad bs) := ⟨by omega, fun h => by have := rd_shorter h; omega⟩
  have HM := Lib.hid hm; clear hm
  have ht : takeO bs = takeO bs := rfl
  conv at ht => rhs; unfold takeO
  generalize hp : kGo (rdN bs) (rdRest bs) (rdBad bs) [] = P at ht
  have HT := Lib.hid ht
  have HP := Lib.hid hp
  clear ht hp
  go_enter Try.func23, Try.ntmps23
  go_wp2_with (first | (at_make; refine Stop.un ?_) | (at_builtin; refine Stop.un ?_) | (with_reducible refine Stop.conv 24 9 ?_) | (with_reducible refine Stop.conv 9 24 ?_))
  refine (newo_any ao m cap bs _ hc HM.out (by omega)).mono ?_
  rintro e w1 ⟨g, rfl, hg, hr, b1⟩
  clear hc
  go_wp2_with (first | (at_make; refine Stop.un ?_) | (at_builtin; refine Stop.un ?_) | (with_reducible refine Stop.conv 24 9 ?_) | (with_reducible refine Stop.conv 9 24 ?_))
  refine (rnumo_any _ _ _ g _ _ _ hr).mono ?_
  rintro e w2 ⟨rfl, hr2, hg2⟩
  have b2 := b1.one hg2 hg (Nat.le_refl _)
  have hT2 : w1.heap.size ≤ w2.heap.size := hg2.size
  rw [Bool.false_or] at hr2
  have hN := rdN_lt bs
  generalize rdN bs = N at hN HP
  generalize w1.heap.size = T at hr2 hT2
  clear hr hg2 b1
  go_wp2_with (first | (at_make; refine Stop.un ?_) | (at_builtin; refine Stop.un ?_) | (with_reducible refine Stop.conv 24 9 ?_) | (with_reducible refine Stop.conv 9 24 ?_))
  go_loopw [5, 6] (fun v c wr => ∃ (q j : Nat) (ab : Option Addr) (cb : Nat) (r : List UInt8) (bad : Bool) (out : List Rn), q ≤ N ∧ Hid (Room m j r bad) ∧ Hid (KOk out) ∧ c = .int .u64 (q : Int) ∧ v = .slice ab j cb ∧ OwnR w wr (.slice ab j cb) j out ∧ Hid (∀ k, (Value.slice ab j cb).ownBlock = some k → T ≤ k) ∧ Rdr 64 w.heap.size T wr g r bad ∧ T ≤ wr.heap.size ∧ Hid (kGo q r bad out = P)) (fun _ c _ => (intOf c).toNat)
  case atStart => exact ⟨N, 0, none, 0, _, _, [], by omega, Lib.hid hroom, Lib.hid (fun y hy => by simp at hy), rfl, rfl, Own.nil _ _ b2, Lib.hid (fun k hk => by cases hk), hr2, hT2, HP⟩
  case round =>
    clear hr2 hT2 b2 HP hroom
    obtain ⟨q, j, ab, cb, r, bad, out, hqN, HR, HKO, rfl, rfl, hO, HK, hr, hTw, HP⟩ := hrel
    by_cases hgo : 0 < q ∧ bad = false
    · obtain ⟨hq, rfl⟩ := hgo
      obtain ⟨p, rfl⟩ : ∃ p, q = p + 1 := ⟨q - 1, by omega⟩
      have hk := HP.out
      rw [kGo_step] at hk
      have HP2 := Lib.hid hk
      have HR2 := Lib.hid HR.out.step
      have HKO2 : Hid (KOk (out ++ [one1 r])) := Lib.hid HKO.out.step
      have hjm := HR.out.1
      clear hk HP
      go_wp2_with (first | (at_make; refine Stop.un ?_) | (at_builtin; refine Stop.un ?_) | (with_reducible refine Stop.conv 24 9 ?_) | (with_reducible refine Stop.conv 9 24 ?_))
      refine (rbado_any _ _ _ g _ _ _ hr).mono ?_
      rintro e w3 ⟨rfl, rfl⟩
      go_wp2_with (first | (at_make; refine Stop.un ?_) | (at_builtin; refine Stop.un ?_) | (with_reducible refine Stop.conv 24 9 ?_) | (with_reducible refine Stop.conv 9 24 ?_))
      refine (rinto_any _ _ _ g _ _ _ hr).mono ?_
      rintro e w3 ⟨rfl, hr3, hg3⟩
      have hgT := hr.ge
      have hO3 := Own.past hO hg3 hgT.1 (fun e => by have := HK.out _ e; omega)
      have hT3 : T ≤ w3.heap.size := Nat.le_trans hTw hg3.size
      rw [Bool.false_or] at hr3
      clear hO hr hg3 hTw
      go_wp2_with (first | (at_make; refine Stop.un ?_) | (at_builtin; refine Stop.un ?_) | (with_reducible refine Stop.conv 24 9 ?_) | (with_reducible refine Stop.conv 9 24 ?_))
      refine (rnumo_any _ _ _ g _ _ _ hr3).mono ?_
      rintro e w4 ⟨rfl, hr4, hg4⟩
      have hO4 := Own.past hO3 hg4 hgT.1 (fun e => by have := HK.out _ e; omega)
      have hT4 : T ≤ w4.heap.size := Nat.le_trans hT3 hg4.size
      have hn2 := rdN_lt (rdRest r)
      have h1 : one1 r = ⟨zag (rdN r), min (rdN (rdRest r)) 4097⟩ := rfl
      rw [h1] at HP2 HKO2
      unfold rest2 at HP2 HR2
      clear hO3 hr3 hg4 hT3 h1
      generalize zag (rdN r) = n1 at HP2 HKO2 ⊢
      generalize rdRest (rdRest r) = r2 at HP2 HR2 hr4
      generalize (rdBad r || rdBad (rdRest r)) = b2 at HP2 HR2 hr4
      generalize rdN (rdRest r) = n2 at HP2 HKO2 hn2 ⊢
      have hmi : min (n2 : Int) 4097 ≤ 4097 := by omega
      have hmi0 : 0 ≤ min (n2 : Int) 4097 := by omega
      go_wp2_with (first | (at_make; refine Stop.un ?_) | (at_builtin; refine Stop.un ?_) | (with_reducible refine Stop.conv 24 9 ?_) | (with_reducible refine Stop.conv 9 24 ?_))
      refine Stop.mk (app_r1 w _ _ rfl rfl hO4 rfl rfl (by omega) ?_)
      intro a5 c5 w5 hO5 hg5 hk5
      have hr5 := hr4.row hg5 (fun k e => .inr (HK.out k e))
      have hT5 : T ≤ w5.heap.size := Nat.le_trans hT4 hg5.size
      have HK5 : Hid (∀ k, (Value.slice a5 (j + 1) c5).ownBlock = some k → T ≤ k) := Lib.hid (fun k e => (hk5 k e).elim (fun e1 => HK.out k e1) (fun h => Nat.le_trans hT4 h))
      clear hO4 hr4 hT4 hg5 hk5
      go_wp2_with (first | (at_make; refine Stop.un ?_) | (at_builtin; refine Stop.un ?_) | (with_reducible refine Stop.conv 24 9 ?_) | (with_reducible refine Stop.conv 9 24 ?_))
      go_roundw
      case rel => exact ⟨p, j + 1, a5, c5, _, _, _, by omega, HR2, HKO2, by go_num, rfl, hO5, HK5, hr5, hT5, HP2⟩
      case measure => simp [intOf] <;> omega
    · have hP : P = (out, r, bad) := by
        rw [← HP.out]
        cases bad with
        | true => exact kGo_bad _ _ _
        | false => have : q = 0 := by simp at hgo; omega
                   subst this; rfl
      have hx : q = 0 ∨ (0 < q ∧ bad = true) := by
        cases bad with
        | true => rcases Nat.eq_zero_or_pos q with h | h
                  · exact .inl h
                  · exact .inr ⟨h, rfl⟩
        | false => simp at hgo; omega
      have hT := HT.out
      rw [hP] at hT
      have HT2 := Lib.hid hT
      have HOL := Lib.hid (OwnR.length hO)
      have hcap := owns_max hO.1
      have hle := owns_le hO.1
      have HRi := Lib.hid (fun w hc => right_any ab j cb out w hc HOL.out hle hcap HKO.out)
      have HFl := Lib.hid (fun w hc => flat_any ab j cb out w hc HOL.out hle hcap HKO.out)
      have hcs := Own.cs hO
      have b1 := Own.below hO
      clear hgo hP hT HT HP HK hO hTw hcap
      rcases hx with rfl | ⟨hq, rfl⟩
      ·
        go_wp2_with (first | (at_make; refine Stop.un ?_) | (at_builtin; refine Stop.un ?_) | (with_reducible refine Stop.conv 24 9 ?_) | (with_reducible refine Stop.conv 9 24 ?_))
        refine (rendo_any _ _ _ g _ _ _ hr).mono ?_
        rintro e w3 ⟨rfl, rfl⟩
        clear hr
        by_cases hE : endE r bad = 0
        ·
          rw [hE]
          have h2 : takeO bs = if rightR out = true then some (flatR out) else none := by rw [HT2.out]; simp only [hE, true_and]
          have H2 := Lib.hid h2
          clear h2 hE HT2
          go_wp2_with (first | (at_make; refine Stop.un ?_) | (at_builtin; refine Stop.un ?_) | (with_reducible refine Stop.conv 24 9 ?_) | (with_reducible refine Stop.conv 9 24 ?_))
          refine (HRi.out _ hcs).mono ?_
          rintro e w4 ⟨rfl, b4⟩
          replace b1 := b1.next b4
          replace hcs := hcs.mono b4 (Nat.le_refl _)
          clear b4 HRi
          cases hR : rightR out with
          | true =>
            have h3 : takeO bs = some (flatR out) := by rw [H2.out, if_pos hR]
            have he : errR out = 0 := by unfold rightR at hR; simp only [Bool.and_eq_true, decide_eq_true_eq] at hR; exact hR.2
            have hfl := HFl.out _ hcs
            rw [he, flatE_ok he] at hfl
            have HF := Lib.hid hfl
            have H3 := Lib.hid h3
            clear h3 he hfl hR H2 HFl
            go_wp2_with (first | (at_make; refine Stop.un ?_) | (at_builtin; refine Stop.un ?_) | (with_reducible refine Stop.conv 24 9 ?_) | (with_reducible refine Stop.conv 9 24 ?_))
            refine HF.out.mono ?_
            rintro e w5 ⟨a5, n5, c5, h5, rfl, o5⟩
            have H5 := Lib.hid h5
            clear h5
            go_wp2_with (first | (at_make; refine Stop.un ?_) | (at_builtin; refine Stop.un ?_) | (with_reducible refine Stop.conv 24 9 ?_) | (with_reducible refine Stop.conv 9 24 ?_))
            go_ret2
            rw [H3.out]
            exact ⟨_, _, _, H5.out, rfl, Own.up o5 b1⟩
          | false =>
            have h3 : takeO bs = none := by rw [H2.out, if_neg (by rw [hR]; decide)]
            replace H2 := Lib.hid h3
            clear h3 hR
            go_wp2_with (first | (at_make; refine Stop.un ?_) | (at_builtin; refine Stop.un ?_) | (with_reducible refine Stop.conv 24 9 ?_) | (with_reducible refine Stop.conv 9 24 ?_))
            go_ret2
            rw [H2.out]
            exact ⟨none, 0, 0, rfl, rfl, Own.nil _ _ b1⟩
        ·
          have h2 : takeO bs = none := by rw [HT2.out]; exact if_neg (fun h => hE h.1)
          have H2 := Lib.hid h2
          have h6 : endE r bad = 6 := by unfold endE at *; split <;> simp_all
          rw [h6]
          clear h2 hE h6 HT2
          go_wp2_with (first | (at_make; refine Stop.un ?_) | (at_builtin; refine Stop.un ?_) | (with_reducible refine Stop.conv 24 9 ?_) | (with_reducible refine Stop.conv 9 24 ?_))
          go_ret2
          rw [H2.out]
          exact ⟨none, 0, 0, rfl, rfl, Own.nil _ _ b1⟩
      ·
        go_wp2_with (first | (at_make; refine Stop.un ?_) | (at_builtin; refine Stop.un ?_) | (with_reducible refine Stop.conv 24 9 ?_) | (with_reducible refine Stop.conv 9 24 ?_))
        refine (rbado_any _ _ _ g _ _ _ hr).mono ?_
        rintro e w3 ⟨rfl, rfl⟩
        go_wp2_with (first | (at_make; refine Stop.un ?_) | (at_builtin; refine Stop.un ?_) | (with_reducible refine Stop.conv 24 9 ?_) | (with_reducible refine Stop.conv 9 24 ?_))
        refine (rendo_any _ _ _ g _ _ _ hr).mono ?_
        rintro e w3 ⟨rfl, rfl⟩
        clear hr
        by_cases hE : endE r true = 0
        ·
          rw [hE]
          have h2 : takeO bs = if rightR out = true then some (flatR out) else none := by rw [HT2.out]; simp only [hE, true_and]
          have H2 := Lib.hid h2
          clear h2 hE HT2
          go_wp2_with (first | (at_make; refine Stop.un ?_) | (at_builtin; refine Stop.un ?_) | (with_reducible refine Stop.conv 24 9 ?_) | (with_reducible refine Stop.conv 9 24 ?_))
          refine (HRi.out _ hcs).mono ?_
          rintro e w4 ⟨rfl, b4⟩
          replace b1 := b1.next b4
          replace hcs := hcs.mono b4 (Nat.le_refl _)
          clear b4 HRi
          cases hR : rightR out with
          | true =>
            have h3 : takeO bs = some (flatR out) := by rw [H2.out, if_pos hR]
            have he : errR out = 0 := by unfold rightR at hR; simp only [Bool.and_eq_true, decide_eq_true_eq] at hR; exact hR.2
            have hfl := HFl.out _ hcs
            rw [he, flatE_ok he] at hfl
            have HF := Lib.hid hfl
            have H3 := Lib.hid h3
            clear h3 he hfl hR H2 HFl
            go_wp2_with (first | (at_make; refine Stop.un ?_) | (at_builtin; refine Stop.un ?_) | (with_reducible refine Stop.conv 24 9 ?_) | (with_reducible refine Stop.conv 9 24 ?_))
            refine HF.out.mono ?_
            rintro e w5 ⟨a5, n5, c5, h5, rfl, o5⟩
            have H5 := Lib.hid h5
            clear h5
            go_wp2_with (first | (at_make; refine Stop.un ?_) | (at_builtin; refine Stop.un ?_) | (with_reducible refine Stop.conv 24 9 ?_) | (with_reducible refine Stop.conv 9 24 ?_))
            go_ret2
            rw [H3.out]
            exact ⟨_, _, _, H5.out, rfl, Own.up o5 b1⟩
          | false =>
            have h3 : takeO bs = none := by rw [H2.out, if_neg (by rw [hR]; decide)]
            replace H2 := Lib.hid h3
            clear h3 hR
            go_wp2_with (first | (at_make; refine Stop.un ?_) | (at_builtin; refine Stop.un ?_) | (with_reducible refine Stop.conv 24 9 ?_) | (with_reducible refine Stop.conv 9 24 ?_))
            go_ret2
            rw [H2.out]
            exact ⟨none, 0, 0, rfl, rfl, Own.nil _ _ b1⟩
        ·
          have h2 : takeO bs = none := by rw [HT2.out]; exact if_neg (fun h => hE h.1)
          have H2 := Lib.hid h2
          have h6 : endE r true = 6 := by unfold endE at *; split <;> simp_all
          rw [h6]
          clear h2 hE h6 HT2
          go_wp2_with (first | (at_make; refine Stop.un ?_) | (at_builtin; refine Stop.un ?_) | (with_reducible refine Stop.conv 24 9 ?_) | (with_reducible refine Stop.conv 9 24 ?_))
          go_ret2
          rw [H2.out]
          exact ⟨none, 0, 0, rfl, rfl, Own.nil _ _ b1⟩
end Go.Proofs.Ytkgcjafediimnaa
