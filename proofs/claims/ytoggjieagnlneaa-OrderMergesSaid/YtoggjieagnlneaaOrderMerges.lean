/- OrderMerges. -/
import Derived.Test.YtoggjieagnlneaaOrderCompares
import Derived.Test.YtoggjieagnlneaaORMerge
import Derived.Test.YtoggjieagnlneaaOBegins
set_option linter.unusedVariables false
set_option linter.unusedSimpArgs false
namespace Go.Proofs.Ytoggjieagnlneaa
open Go.RowKit
theorem few_take_ok {w : World} {ao : Option Addr} {rows : List Rw} (h : Tab w ao rows) : Tab w ao (rows.take (fewR 0 rows)) ∧ (rows.take (fewR 0 rows)).length = fewR 0 rows ∧ fewR 0 rows ≤ 100 ∧ ∀ r ∈ rows.take (fewR 0 rows), r.n ≤ 1000000 := by
  have h1 := fewR_le rows 0
  have h2 := fewR_100 rows 0 (by omega)
  exact ⟨h.take _, by rw [List.length_take]; omega, by omega, fun r hr => by have := fewR_in rows 0 r hr; omega⟩
set_option maxRecDepth 100000 in
set_option maxHeartbeats 8000000 in
theorem orderMerges_any (a1 : Option Addr) (n1 c1 : Nat) (r1 : List Rw) (a2 : Option Addr) (n2 c2 : Nat) (r2 : List Rw) (ak : Option Addr) (p ck : Nat) (ks : List Ky) (ab : Option Addr) (pb cb : Nat) (bs : List Ky) (w : World)
    (h1 : Tab w a1 r1) (h2 : Tab w a2 r2) (l1 : r1.length = n1) (l2 : r2.length = n2) (m1 : n1 ≤ c1) (m2 : n2 ≤ c2) (cm1 : c1 ≤ maxLen) (cm2 : c2 ≤ maxLen)
    (hk : Cs w ak (kcells ks)) (hp : ks.length = p) (hlp : p ≤ ck) (hcm : ck ≤ maxLen) (hb : Cs w ab (kcells bs)) (hpb : bs.length = pb) (hlb : pb ≤ cb) (hcb : cb ≤ maxLen) :
    Calls Try.prog 8 #[.slice a1 n1 c1, .slice a2 n2 c2, .slice ak p ck, .slice ab pb cb] w (fun e w' => e = .returned (.bool true) ∧ Below w.heap.size w w') := by
  have HF1 := Lib.hid (fun W (h : Tab W a1 r1) => few_any15 a1 n1 c1 r1 W h l1 m1 cm1)
  have HF2 := Lib.hid (fun W (h : Tab W a2 r2) => few_any15 a2 n2 c2 r2 W h l2 m2 cm2)
  have HSK := Lib.hid (fun w => some_any15 ak p ck w hlp hcm)
  have HSB := Lib.hid (fun w => some_any15 ab pb cb w hlb hcb)
  obtain ⟨t1, f1, f2, f3⟩ := few_take_ok h1
  obtain ⟨t2, e1, e2, e3⟩ := few_take_ok h2
  have hfl1 : fewR 0 r1 ≤ c1 := by have := fewR_le r1 0; omega
  have hfl2 : fewR 0 r2 ≤ c2 := by have := fewR_le r2 0; omega
  generalize r1.take (fewR 0 r1) = x at t1 f1 f3
  generalize r2.take (fewR 0 r2) = y at t2 e1 e3
  generalize fewR 0 r1 = i at HF1 f1 f2 hfl1
  generalize fewR 0 r2 = k at HF2 e1 e2 hfl2
  have hkx : (ks.take (min p 10)).length = min p 10 := by simp; omega
  have kx := kcut hk (min p 10)
  have hkc : min p 10 ≤ ck := by omega
  generalize ks.take (min p 10) = kk at hkx kx
  generalize min p 10 = f at hkx hkc HSK
  have hbx : (bs.take (min pb 10)).length = min pb 10 := by simp; omega
  have bx := kcut hb (min pb 10)
  have hbc : min pb 10 ≤ cb := by omega
  generalize bs.take (min pb 10) = bb at hbx bx
  generalize min pb 10 = g at hbx hbc HSB
  have HM := Lib.hid (fun W t1 t2 kx => omerge_any a1 i c1 x a2 k c2 y ak f ck kk W t1 t2 f1 e1 hfl1 hfl2 cm1 cm2 (by omega) (by omega) f3 e3 kx hkx hkc hcm)
  have HRM := Lib.hid (fun W t1 t2 kx => ormerge_any a1 i c1 x a2 k c2 y ak f ck kk W t1 t2 f1 e1 hfl1 hfl2 cm1 cm2 (by omega) (by omega) kx hkx hkc hcm)
  have HB := Lib.hid (fun W kx bx => begins_any ak f ck kk ab g cb bb W kx bx hkx hbx hkc hbc hcm hcb)
  have HRB := Lib.hid (fun W kx bx => rbegins_any ak f ck kk ab g cb bb W kx bx hkx hbx hkc hbc hcm hcb)
  have HMP := Lib.hid (mergeS_perm (rcmp kk) x y)
  have HML : Hid ((mergeS (rcmp kk) x y).length = i + k) := Lib.hid (by rw [mergeS_length, f1, e1])
  generalize beginsB kk bb = qb at HB HRB
  generalize mergeS (rcmp kk) x y = M at HM HRM HMP HML
  clear l1 l2 hk hb hp hpb f1 f3 e1 e3 hkx hbx
  go_enter Try.func8, Try.ntmps8
  have b0 : Below w.heap.size w w := Below.refl _ _
  go_wp2_with (first | (at_make; refine Stop.un ?_) | (at_builtin; refine Stop.un ?_))
  refine (HF1.out _ h1).mono ?_
  rintro e v1 ⟨rfl, bt⟩
  replace b0 := Below.next b0 bt
  replace h1 := Tab.mono h1 bt
  replace h2 := Tab.mono h2 bt
  replace t1 := Tab.mono t1 bt
  replace t2 := Tab.mono t2 bt
  replace kx := Cs.mono kx bt (Nat.le_refl _)
  replace bx := Cs.mono bx bt (Nat.le_refl _)
  clear bt
  clear h1
  go_wp2_with (first | (at_make; refine Stop.un ?_) | (at_builtin; refine Stop.un ?_))
  refine (HF2.out _ h2).mono ?_
  rintro e v2 ⟨rfl, bt⟩
  replace b0 := Below.next b0 bt
  replace h2 := Tab.mono h2 bt
  replace t1 := Tab.mono t1 bt
  replace t2 := Tab.mono t2 bt
  replace kx := Cs.mono kx bt (Nat.le_refl _)
  replace bx := Cs.mono bx bt (Nat.le_refl _)
  clear bt
  clear h2
  go_wp2_with (first | (at_make; refine Stop.un ?_) | (at_builtin; refine Stop.un ?_))
  refine (HSK.out _).mono ?_
  rintro e v3 ⟨rfl, rfl⟩
  go_wp2_with (first | (at_make; refine Stop.un ?_) | (at_builtin; refine Stop.un ?_))
  refine (shown_any15 _).mono ?_
  rintro e v4 ⟨rfl, bt⟩
  replace b0 := Below.next b0 bt
  replace t1 := Tab.mono t1 bt
  replace t2 := Tab.mono t2 bt
  replace kx := Cs.mono kx bt (Nat.le_refl _)
  replace bx := Cs.mono bx bt (Nat.le_refl _)
  clear bt
  go_wp2_with (first | (at_make; refine Stop.un ?_) | (at_builtin; refine Stop.un ?_))
  refine (HM.out _ t1 t2 kx).mono ?_
  rintro e u1 ⟨gM, rs, rfl, oM, hrs⟩
  have bt := oM.below
  have tM := oM.tab
  have HRS := Lib.hid hrs
  replace b0 := Below.next b0 bt
  replace t1 := Tab.mono t1 bt
  replace t2 := Tab.mono t2 bt
  replace kx := Cs.mono kx bt (Nat.le_refl _)
  replace bx := Cs.mono bx bt (Nat.le_refl _)
  clear bt oM hrs
  go_wp2_with (first | (at_make; refine Stop.un ?_) | (at_builtin; refine Stop.un ?_))
  refine (HRM.out _ t1 t2 kx).mono ?_
  rintro e u2 ⟨aR, cR, rfl, oR⟩
  have bt := Own.below oR
  have cR' := Own.cs oR
  have leR := owns_le oR.1
  have mxR := owns_max oR.1
  replace b0 := Below.next b0 bt
  replace t1 := Tab.mono t1 bt
  replace t2 := Tab.mono t2 bt
  replace kx := Cs.mono kx bt (Nat.le_refl _)
  replace bx := Cs.mono bx bt (Nat.le_refl _)
  replace tM := Tab.mono tM bt
  have tR : Tab u2 aR M := ⟨cR', fun r hr => by
    rcases List.mem_append.1 (HMP.out.mem_iff.1 hr) with hr | hr
    · exact t1.ok r hr
    · exact t2.ok r hr⟩
  clear bt oR cR'
  have hrl : rs.length = i + k := by have := congrArg List.length HRS.out; rw [List.length_map, List.length_map, HML.out] at this; exact this
  have hs := samerows_any _ (i + k) (i + k) rs aR (i + k) cR M _ tM tR hrl HML.out (Nat.le_refl _) leR (by unfold maxLen; omega) mxR
  rw [decide_eq_true HRS.out] at hs
  have HS := Lib.hid hs
  clear hs hrl
  go_wp2_with (first | (at_make; refine Stop.un ?_) | (at_builtin; refine Stop.un ?_))
  refine (HS.out).mono ?_
  rintro e v6 ⟨rfl, bt⟩
  replace b0 := Below.next b0 bt
  replace t1 := Tab.mono t1 bt
  replace t2 := Tab.mono t2 bt
  replace kx := Cs.mono kx bt (Nat.le_refl _)
  replace bx := Cs.mono bx bt (Nat.le_refl _)
  replace tM := Tab.mono tM bt
  replace tR := Tab.mono tR bt
  clear bt
  clear tM
  clear tR
  clear t1
  clear t2
  go_wp2_with (first | (at_make; refine Stop.un ?_) | (at_builtin; refine Stop.un ?_))
  refine (HSB.out _).mono ?_
  rintro e v7 ⟨rfl, rfl⟩
  go_wp2_with (first | (at_make; refine Stop.un ?_) | (at_builtin; refine Stop.un ?_))
  refine (HB.out _ kx bx).mono ?_
  rintro e v8 ⟨rfl, bt⟩
  replace b0 := Below.next b0 bt
  replace kx := Cs.mono kx bt (Nat.le_refl _)
  replace bx := Cs.mono bx bt (Nat.le_refl _)
  clear bt
  go_wp2_with (first | (at_make; refine Stop.un ?_) | (at_builtin; refine Stop.un ?_))
  refine (HSB.out _).mono ?_
  rintro e v9 ⟨rfl, rfl⟩
  go_wp2_with (first | (at_make; refine Stop.un ?_) | (at_builtin; refine Stop.un ?_))
  refine (HRB.out _ kx bx).mono ?_
  rintro e v10 ⟨rfl, bt⟩
  replace b0 := Below.next b0 bt
  replace kx := Cs.mono kx bt (Nat.le_refl _)
  replace bx := Cs.mono bx bt (Nat.le_refl _)
  clear bt
  have hq : (qb == qb) = true := by simp
  go_wp2_with (first | (at_make; refine Stop.un ?_) | (at_builtin; refine Stop.un ?_))
  go_ret
  exact ⟨by first | rfl | simp, b0⟩
end Go.Proofs.Ytoggjieagnlneaa
