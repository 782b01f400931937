/- OrderSorts. -/
import Derived.Test.YtoggjieagnlneaaORSort
import Derived.Test.YtoggjieagnlneaaORight
import Derived.Test.YtoggjieagnlneaaOSortd
import Derived.Test.YtoggjieagnlneaaStb
import Derived.Test.YtoggjieagnlneaaOFew
set_option linter.unusedVariables false
set_option linter.unusedSimpArgs false
namespace Go.Proofs.Ytoggjieagnlneaa
open Go.RowKit
def FzAll (w : World) (q : List Rw) : Prop := ∀ r ∈ q, Fz w r
theorem FzAll.mono {w x : World} {q : List Rw} (h : FzAll w q) (b : Below w.heap.size w x) : FzAll x q := fun r hr => (h r hr).mono b
theorem FzAll.set {w : World} {q : List Rw} (h : FzAll w q) (g k : Nat) (v : Value) : FzAll (w.setCell ⟨g, k, none⟩ v) q := fun r hr a ha => by
  obtain ⟨g', cs, e, e1, e2, e3⟩ := h r hr a ha
  by_cases hg : g' = g
  · subst hg
    have z : At w g' cs e := e2
    exact ⟨g', _, e, e1, z.set k v, by simpa using e3⟩
  · have z : At w g' cs e := e2
    exact ⟨g', cs, e, e1, z.off hg v, e3⟩
set_option maxRecDepth 100000 in
set_option maxHeartbeats 8000000 in
theorem orderSorts_any (a1 : Option Addr) (n1 c1 : Nat) (r1 : List Rw) (ak : Option Addr) (p ck : Nat) (ks : List Ky) (cols : Int) (w : World)
    (h1 : Tab w a1 r1) (l1 : r1.length = n1) (m1 : n1 ≤ c1) (cm1 : c1 ≤ maxLen)
    (hk : Cs w ak (kcells ks)) (hp : ks.length = p) (hlp : p ≤ ck) (hcm : ck ≤ maxLen) :
    Calls Try.prog 6 #[.slice a1 n1 c1, .slice ak p ck, .int .i64 cols] w (fun e w' => e = .returned (.bool true) ∧ Below w.heap.size w w') := by
  have HF1 := Lib.hid (fun W (h : Tab W a1 r1) => few_any15 a1 n1 c1 r1 W h l1 m1 cm1)
  have HSK := Lib.hid (fun w => some_any15 ak p ck w hlp hcm)
  have HR1 := Lib.hid (fun W hk => oright_any cols ak p ck ks W hk hp hlp hcm)
  have HR2 := Lib.hid (fun W hk => orright_any cols ak p ck ks W hk hp hlp hcm)
  generalize rightK cols ks = RR at HR1 HR2
  obtain ⟨t1, f1, f2, f3⟩ := few_take_ok h1
  have hfl1 : fewR 0 r1 ≤ c1 := by have := fewR_le r1 0; omega
  generalize r1.take (fewR 0 r1) = x at t1 f1 f3
  generalize fewR 0 r1 = nx at HF1 f1 f2 hfl1
  have hkx : (ks.take (min p 10)).length = min p 10 := by simp; omega
  have kx := kcut hk (min p 10)
  have hkc : min p 10 ≤ ck := by omega
  generalize ks.take (min p 10) = kk at hkx kx
  generalize min p 10 = f at hkx hkc HSK
  have HS1 := Lib.hid (fun W t1 kx => sort_any a1 nx c1 x ak f ck kk W t1 f1 hfl1 cm1 (by omega) f3 kx hkx hkc hcm)
  have HS2 := Lib.hid (fun W t1 kx => rsort_any a1 nx c1 x ak f ck kk W t1 f1 hfl1 cm1 (by omega) kx hkx hkc hcm)
  have HO1 := Lib.hid (fun W t1 kx => sorted_any a1 nx c1 x ak f ck kk W t1 f1 hfl1 cm1 kx hkx hkc hcm)
  have HO2 := Lib.hid (fun W t1 kx => rsorted_any a1 nx c1 x ak f ck kk W t1 f1 hfl1 cm1 kx hkx hkc hcm)
  generalize upB (rcmp kk) x = qs at HO1 HO2
  have HD := Lib.hid (fun W t1 => deep_any a1 nx c1 x W t1 f1 hfl1 cm1 (by omega) f3)
  have HXL := Lib.hid (And.intro f1 (And.intro hfl1 cm1))
  clear l1 hp f1 f3 hkx cm1
  go_enter Try.func6, Try.ntmps6
  have b0 : Below w.heap.size w w := Below.refl _ _
  go_wp2_with (first | (at_make; refine Stop.un ?_) | (at_builtin; refine Stop.un ?_))
  refine (shown_any15 _).mono ?_
  rintro e v1 ⟨rfl, bt⟩
  replace b0 := Below.next b0 bt
  replace h1 := Tab.mono h1 bt
  replace t1 := Tab.mono t1 bt
  replace kx := Cs.mono kx bt (Nat.le_refl _)
  replace hk := Cs.mono hk bt (Nat.le_refl _)
  clear bt
  go_wp2_with (first | (at_make; refine Stop.un ?_) | (at_builtin; refine Stop.un ?_))
  refine (HF1.out _ h1).mono ?_
  rintro e v2 ⟨rfl, bt⟩
  replace b0 := Below.next b0 bt
  replace h1 := Tab.mono h1 bt
  replace t1 := Tab.mono t1 bt
  replace kx := Cs.mono kx bt (Nat.le_refl _)
  replace hk := Cs.mono hk bt (Nat.le_refl _)
  clear bt
  clear h1
  go_wp2_with (first | (at_make; refine Stop.un ?_) | (at_builtin; refine Stop.un ?_))
  refine (HSK.out _).mono ?_
  rintro e v3 ⟨rfl, rfl⟩
  go_wp2_with (first | (at_make; refine Stop.un ?_) | (at_builtin; refine Stop.un ?_))
  refine (HD.out _ t1).mono ?_
  rintro e vT ⟨aD, cD, rD, rfl, OD, okD, hD⟩
  have bt := Own.below OD
  have tD : Tab vT aD rD := ⟨Own.cs OD, okD⟩
  have HDL := Lib.hid (And.intro hD (And.intro (owns_le OD.1) (And.intro (owns_max OD.1) (OwnRs.length OD))))
  replace b0 := Below.next b0 bt
  replace t1 := Tab.mono t1 bt
  replace kx := Cs.mono kx bt (Nat.le_refl _)
  replace hk := Cs.mono hk bt (Nat.le_refl _)
  clear bt OD okD hD
  have HTD := Lib.hid (And.intro t1 tD)
  have HWT0 := Lib.hid b0.size
  clear tD
  have bT : Below vT.heap.size vT vT := Below.refl _ _
  go_wp2_with (first | (at_make; refine Stop.un ?_) | (at_builtin; refine Stop.un ?_))
  refine (HS1.out _ t1 kx).mono ?_
  rintro e v4 ⟨g1, q1, rfl, o1, hr1⟩
  have bt := o1.below
  have u1 := o1.tab
  have z1 := o1.at_
  have fz1 : FzAll v4 q1 := o1.fz
  have HBK : Hid (vT.heap.size ≤ g1 ∧ ∀ r ∈ q1, (r.a = none → r.n = 0) ∧ ∀ a, r.a = some a → vT.heap.size ≤ a.block ∧ a.block ≠ g1) := Lib.hid ⟨o1.ge, fun r hr => ⟨fun hn => by
    have ho := (o1.ok r hr).1
    have h2 := ho.cs
    rw [hn] at h2
    have h3 := cs_none h2
    have h4 := congrArg List.length h3
    have h5 := ho.len
    rw [vcells_length, List.length_nil] at h4
    omega, fun a ha => ⟨((o1.ok r hr).2 a ha).1, ((o1.ok r hr).2 a ha).2.2⟩⟩⟩
  have HBN : Hid (∀ r ∈ q1, r.n ≤ 9223372036854775807) := Lib.hid (fun r hr => by have h2 := (o1.ok r hr).1.le; have h3 := (o1.ok r hr).1.max; unfold maxLen at h3; omega)
  have HQ := Lib.hid hr1
  have hql : q1.length = nx := by have := congrArg List.length hr1; rw [List.length_map] at this; rw [this]; unfold sortL; rw [sortB_length, List.length_map]; exact HXL.out.1
  have HQL := Lib.hid hql
  replace b0 := Below.next b0 bt
  replace t1 := Tab.mono t1 bt
  replace kx := Cs.mono kx bt (Nat.le_refl _)
  replace hk := Cs.mono hk bt (Nat.le_refl _)
  replace bT := Below.next bT bt
  clear bt o1 hr1 hql
  go_wp2_with (first | (at_make; refine Stop.un ?_) | (at_builtin; refine Stop.un ?_))
  refine (HS2.out _ t1 kx).mono ?_
  rintro e v5 ⟨aS, cS, rfl, oS⟩
  have bt := Own.below oS
  have cs5 := Own.cs oS
  have HSL := Lib.hid (And.intro (owns_le oS.1) (And.intro (owns_max oS.1) (OwnRs.length oS)))
  replace b0 := Below.next b0 bt
  replace t1 := Tab.mono t1 bt
  replace kx := Cs.mono kx bt (Nat.le_refl _)
  replace hk := Cs.mono hk bt (Nat.le_refl _)
  replace bT := Below.next bT bt
  replace u1 := Tab.mono u1 bt
  replace z1 := At.mono z1 bt
  replace fz1 := FzAll.mono fz1 bt
  have uS : Tab v5 aS (sortB (rcmp kk) x) := ⟨cs5, fun r hr => t1.ok r ((sortB_perm (rcmp kk) x).mem_iff.1 hr)⟩
  clear bt oS cs5
  have hs := samerows_any _ nx nx q1 aS nx cS _ _ u1 uS HQL.out HSL.out.2.2 (Nat.le_refl _) HSL.out.1 (by unfold maxLen; omega) HSL.out.2.1
  rw [decide_eq_true (by rw [HQ.out, sortL_of])] at hs
  have HSS := Lib.hid hs
  clear hs uS u1 HSL HQ
  go_wp2_with (first | (at_make; refine Stop.un ?_) | (at_builtin; refine Stop.un ?_))
  refine (HSS.out).mono ?_
  rintro e v4 ⟨rfl, bt⟩
  replace b0 := Below.next b0 bt
  replace t1 := Tab.mono t1 bt
  replace kx := Cs.mono kx bt (Nat.le_refl _)
  replace hk := Cs.mono hk bt (Nat.le_refl _)
  replace bT := Below.next bT bt
  replace z1 := At.mono z1 bt
  replace fz1 := FzAll.mono fz1 bt
  clear bt
  go_wp2_with (first | (at_make; refine Stop.un ?_) | (at_builtin; refine Stop.un ?_))
  refine (HO1.out _ t1 kx).mono ?_
  rintro e v5 ⟨rfl, bt⟩
  replace b0 := Below.next b0 bt
  replace t1 := Tab.mono t1 bt
  replace kx := Cs.mono kx bt (Nat.le_refl _)
  replace hk := Cs.mono hk bt (Nat.le_refl _)
  replace bT := Below.next bT bt
  replace z1 := At.mono z1 bt
  replace fz1 := FzAll.mono fz1 bt
  clear bt
  go_wp2_with (first | (at_make; refine Stop.un ?_) | (at_builtin; refine Stop.un ?_))
  refine (HO2.out _ t1 kx).mono ?_
  rintro e v6 ⟨rfl, bt⟩
  replace b0 := Below.next b0 bt
  replace t1 := Tab.mono t1 bt
  replace kx := Cs.mono kx bt (Nat.le_refl _)
  replace hk := Cs.mono hk bt (Nat.le_refl _)
  replace bT := Below.next bT bt
  replace z1 := At.mono z1 bt
  replace fz1 := FzAll.mono fz1 bt
  clear bt
  go_wp2_with (first | (at_make; refine Stop.un ?_) | (at_builtin; refine Stop.un ?_))
  refine (HR1.out _ hk).mono ?_
  rintro e v7 ⟨rfl, bt⟩
  replace b0 := Below.next b0 bt
  replace t1 := Tab.mono t1 bt
  replace kx := Cs.mono kx bt (Nat.le_refl _)
  replace hk := Cs.mono hk bt (Nat.le_refl _)
  replace bT := Below.next bT bt
  replace z1 := At.mono z1 bt
  replace fz1 := FzAll.mono fz1 bt
  clear bt
  go_wp2_with (first | (at_make; refine Stop.un ?_) | (at_builtin; refine Stop.un ?_))
  refine (HR2.out _ hk).mono ?_
  rintro e v8 ⟨rfl, bt⟩
  replace b0 := Below.next b0 bt
  replace t1 := Tab.mono t1 bt
  replace kx := Cs.mono kx bt (Nat.le_refl _)
  replace hk := Cs.mono hk bt (Nat.le_refl _)
  replace bT := Below.next bT bt
  replace z1 := At.mono z1 bt
  replace fz1 := FzAll.mono fz1 bt
  clear bt
  have hqq : (qs == qs) = true := by simp
  have hrr : (RR == RR) = true := by simp
  go_wp2_with (first | (at_make; refine Stop.un ?_) | (at_builtin; refine Stop.un ?_))
  have HWT : Hid (w.heap.size ≤ vT.heap.size) := HWT0
  clear t1 kx hk HS1 HS2 HO1 HO2 HR1 HR2 HD HF1 HSK hqq hrr
  go_loopw [52] (fun v wr => ∃ i : Nat, i ≤ nx ∧ v = .int .i64 (i : Int) ∧ At wr g1 (rwcells q1).toArray 23 ∧ FzAll wr q1 ∧ Below vT.heap.size vT wr ∧ Below w.heap.size w wr) (fun v _ => nx - (intOf v).toNat)
  case atStart => exact ⟨0, Nat.zero_le _, rfl, z1, fz1, bT, b0⟩
  case round =>
    clear z1 fz1 bT b0
    obtain ⟨i, hi, rfl, z1, fz1, bT, b0⟩ := hrel
    by_cases hlt : i < nx
    · have hil : i < q1.length := by rw [HQL.out]; exact hlt
      obtain ⟨r, hrr⟩ : ∃ r, q1[i] = r := ⟨_, rfl⟩
      have HRM : Hid (r ∈ q1) := Lib.hid (hrr ▸ List.getElem_mem _)
      have HX : Hid (∀ W, At W g1 (rwcells q1).toArray 23 → W.cell? ⟨g1, i, none⟩ = some (.slice r.a r.n r.cap)) := Lib.hid (fun W z => z.cell i (by simp [rwcells, hil, Rw.sl, hrr]))
      have x0 := HX.out _ z1
      have hrb := HBN.out r HRM.out
      obtain ⟨ra, rn, rc, rl⟩ := r
      simp only at x0 HX hrb
      have g1l := z1.lt
      clear hrr hil
      go_wp2_with (first | (at_make; refine Stop.un ?_) | (at_builtin; refine Stop.un ?_))
      go_loopw [60] (fun v wr => ∃ c : Nat, c ≤ rn ∧ v = .int .i64 (c : Int) ∧ At wr g1 (rwcells q1).toArray 23 ∧ FzAll wr q1 ∧ Below vT.heap.size vT wr ∧ Below w.heap.size w wr) (fun v _ => rn - (intOf v).toNat)
      case atStart => exact ⟨0, Nat.zero_le _, rfl, z1, fz1, bT, b0⟩
      case round =>
        clear z1 fz1 bT b0 x0 g1l
        obtain ⟨c, hc, rfl, z1, fz1, bT, b0⟩ := hrel
        by_cases hlc : c < rn
        · cases ra with
          | none =>
            have h0 := (HBK.out.2 _ HRM.out).1 rfl
            simp only at h0
            omega
          | some ad =>
            obtain ⟨gr, cs, e, rfl, hz, hsz⟩ := fz1 _ HRM.out _ rfl
            obtain ⟨hge, hgn⟩ := (HBK.out.2 _ HRM.out).2 _ rfl
            simp only at hge hgn hsz
            have z : At wr gr cs e := hz
            have f5 := z.free (c * 3 + 1)
            have x5 := z.cell (c * 3 + 1) (Array.getElem?_eq_getElem (by omega))
            have x0 := HX.out _ z1
            have zl := z.lt
            have z9 := z1.off (p := ⟨gr, c * 3 + 1, none⟩) (Ne.symm hgn) (.int .i64 (-77))
            have fz9 := fz1.set gr (c * 3 + 1) (.int .i64 (-77))
            have bT9 := bT.setCell (p := ⟨gr, c * 3 + 1, none⟩) hge (.int .i64 (-77))
            have b9 := b0.setCell (p := ⟨gr, c * 3 + 1, none⟩) (Nat.le_trans HWT.out hge) (.int .i64 (-77))
            clear z1 fz1 bT b0 hz z
            go_wp2_with (first | (at_make; refine Stop.un ?_) | (at_builtin; refine Stop.un ?_))
            go_roundw
            case rel => exact ⟨c + 1, by omega, by go_num, z9, fz9, bT9, b9⟩
            case measure => simp [intOf]; omega
        · obtain rfl : c = rn := by omega
          go_wp2_with (first | (at_make; refine Stop.un ?_) | (at_builtin; refine Stop.un ?_))
          go_roundw
          case rel => exact ⟨i + 1, by omega, by go_num, z1, fz1, bT, b0⟩
          case measure => simp [intOf]; omega
    · obtain rfl : i = nx := by omega
      have hs := samerows_any a1 i c1 x aD i cD rD wr (HTD.out.1.mono bT) (HTD.out.2.mono bT) HXL.out.1 HDL.out.2.2.2 HXL.out.2.1 HDL.out.2.1 HXL.out.2.2 HDL.out.2.2.1
      rw [decide_eq_true HDL.out.1.symm] at hs
      have HS := Lib.hid hs
      clear hs z1 fz1
      go_wp2_with (first | (at_make; refine Stop.un ?_) | (at_builtin; refine Stop.un ?_))
      refine HS.out.mono ?_
      rintro e w9 ⟨rfl, bt⟩
      replace b0 := b0.next bt
      go_wp2_with (first | (at_make; refine Stop.un ?_) | (at_builtin; refine Stop.un ?_))
      go_ret
      exact ⟨by first | rfl | simp, b0⟩
end Go.Proofs.Ytoggjieagnlneaa
