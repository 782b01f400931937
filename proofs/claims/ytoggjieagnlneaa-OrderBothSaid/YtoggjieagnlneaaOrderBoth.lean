/- OrderBoth. -/
import Derived.Test.YtoggjieagnlneaaStb
import Derived.Test.YtoggjieagnlneaaOFew
import Derived.Test.YtoggjieagnlneaaOMerge
set_option linter.unusedVariables false
set_option linter.unusedSimpArgs false
namespace Go.Proofs.Ytoggjieagnlneaa
open Go.RowKit
theorem mergeL (ks : List Ky) (A B : List Rw) : (mergeS (rcmp ks) A B).map (·.l) = mergeS (fun a b => cmpR a b ks) (A.map (·.l)) (B.map (·.l)) := mergeS_map (·.l) (fun a b => cmpR a b ks) A B
theorem ltr (ks : List Ky) (a b d : List V) (h1 : cmpR a b ks ≤ 0) (h2 : cmpR b d ks ≤ 0) : cmpR a d ks ≤ 0 := by
  have := cmpR_tri a b d ks
  unfold Tri at this
  omega
theorem sortL_app (ks : List Ky) (A B : List (List V)) : sortL ks (A ++ B) = mergeS (fun a b => cmpR a b ks) (sortL ks A) (sortL ks B) := sortB_app (fun a b => cmpR a b ks) (fun a b => cmpR_neg a b ks) (ltr ks) A B
theorem sortL_perm (ks : List Ky) (A : List (List V)) : (sortL ks A).Perm A := sortB_perm _ _
/-- Rows that hold what others hold are no longer. -/
theorem short_of {w : World} {rs x : List Rw} {L : List (List V)} (h : rs.map (·.l) = L) (hp : L.Perm (x.map (·.l))) (h1 : ∀ r ∈ rs, RowOk w r) (h2 : ∀ r ∈ x, r.l.length = r.n) (K : Nat) (h3 : ∀ r ∈ x, r.n ≤ K) : ∀ r ∈ rs, r.n ≤ K := by
  intro r hr
  have h4 : r.l ∈ x.map (·.l) := hp.mem_iff.1 (h ▸ List.mem_map_of_mem hr)
  obtain ⟨q, hq, e⟩ := List.mem_map.1 h4
  have h5 := (h1 r hr).len
  have h6 := h2 q hq
  have h7 := h3 q hq
  try simp only at e
  rw [e] at h6
  omega
set_option maxRecDepth 100000 in
set_option maxHeartbeats 8000000 in
theorem orderBoth_any (a1 : Option Addr) (n1 c1 : Nat) (r1 : List Rw) (a2 : Option Addr) (n2 c2 : Nat) (r2 : List Rw) (ak : Option Addr) (p ck : Nat) (ks : List Ky) (w : World)
    (h1 : Tab w a1 r1) (h2 : Tab w a2 r2) (l1 : r1.length = n1) (l2 : r2.length = n2) (m1 : n1 ≤ c1) (m2 : n2 ≤ c2) (cm1 : c1 ≤ maxLen) (cm2 : c2 ≤ maxLen)
    (hk : Cs w ak (kcells ks)) (hp : ks.length = p) (hlp : p ≤ ck) (hcm : ck ≤ maxLen) :
    Calls Try.prog 7 #[.slice a1 n1 c1, .slice a2 n2 c2, .slice ak p ck] w (fun e w' => e = .returned (.bool true) ∧ Below w.heap.size w w') := by
  have HF1 := Lib.hid (fun W (h : Tab W a1 r1) => few_any15 a1 n1 c1 r1 W h l1 m1 cm1)
  have HF2 := Lib.hid (fun W (h : Tab W a2 r2) => few_any15 a2 n2 c2 r2 W h l2 m2 cm2)
  have HSK := Lib.hid (fun w => some_any15 ak p ck w hlp hcm)
  obtain ⟨t1, f1, f2, f3⟩ := few_take_ok h1
  obtain ⟨t2, e1, e2, e3⟩ := few_take_ok h2
  have hfl1 : fewR 0 r1 ≤ c1 := by have := fewR_le r1 0; omega
  have hfl2 : fewR 0 r2 ≤ c2 := by have := fewR_le r2 0; omega
  generalize r1.take (fewR 0 r1) = x at t1 f1 f3
  generalize r2.take (fewR 0 r2) = y at t2 e1 e3
  generalize fewR 0 r1 = i at HF1 f1 f2 hfl1
  generalize fewR 0 r2 = k at HF2 e1 e2 hfl2
  have hkx : (ks.take (min p 10)).length = min p 10 := by simp; omega
  have kx := kcut hk (min p 10)
  have hkc : min p 10 ≤ ck := by omega
  generalize ks.take (min p 10) = kk at hkx kx
  generalize min p 10 = f at hkx hkc HSK
  have HS1 := Lib.hid (fun W t1 kx => sort_any a1 i c1 x ak f ck kk W t1 f1 hfl1 cm1 (by omega) f3 kx hkx hkc hcm)
  have HS2 := Lib.hid (fun W t2 kx => sort_any a2 k c2 y ak f ck kk W t2 e1 hfl2 cm2 (by omega) e3 kx hkx hkc hcm)
  have HXY := Lib.hid (And.intro f1 (And.intro e1 (And.intro f3 e3)))
  have HK := Lib.hid (And.intro hkx (And.intro hkc hcm))
  have HT := Lib.hid (And.intro t1 (And.intro t2 kx))
  clear l1 l2 hk hp f1 f3 e1 e3 hkx
  go_enter Try.func7, Try.ntmps7
  have b0 : Below w.heap.size w w := Below.refl _ _
  go_wp2_with (first | (at_make; refine Stop.un ?_) | (at_builtin; refine Stop.un ?_))
  refine (shown_any15 _).mono ?_
  rintro e v1 ⟨rfl, bt⟩
  replace b0 := Below.next b0 bt
  replace h1 := Tab.mono h1 bt
  replace h2 := Tab.mono h2 bt
  replace t1 := Tab.mono t1 bt
  replace t2 := Tab.mono t2 bt
  replace kx := Cs.mono kx bt (Nat.le_refl _)
  clear bt
  go_wp2_with (first | (at_make; refine Stop.un ?_) | (at_builtin; refine Stop.un ?_))
  refine (HF1.out _ h1).mono ?_
  rintro e v2 ⟨rfl, bt⟩
  replace b0 := Below.next b0 bt
  replace h1 := Tab.mono h1 bt
  replace h2 := Tab.mono h2 bt
  replace t1 := Tab.mono t1 bt
  replace t2 := Tab.mono t2 bt
  replace kx := Cs.mono kx bt (Nat.le_refl _)
  clear bt
  clear h1
  go_wp2_with (first | (at_make; refine Stop.un ?_) | (at_builtin; refine Stop.un ?_))
  refine (HF2.out _ h2).mono ?_
  rintro e v3 ⟨rfl, bt⟩
  replace b0 := Below.next b0 bt
  replace h2 := Tab.mono h2 bt
  replace t1 := Tab.mono t1 bt
  replace t2 := Tab.mono t2 bt
  replace kx := Cs.mono kx bt (Nat.le_refl _)
  clear bt
  clear h2
  go_wp2_with (first | (at_make; refine Stop.un ?_) | (at_builtin; refine Stop.un ?_))
  refine (HSK.out _).mono ?_
  rintro e v4 ⟨rfl, rfl⟩
  go_wp2_with (first | (at_make; refine Stop.un ?_) | (at_builtin; refine Stop.un ?_))
  have O0 : OwnRs w (v3.alloc (.cells #[] 23)) (.slice (some ⟨v3.heap.size, 0, none⟩) 0 0) 0 [] := Own.block b0 (by simp) (by simp)
  have ba := (Below.refl v3.heap.size v3).alloc (Nat.le_refl _) (.cells #[] 23)
  replace b0 := Below.next b0 ba
  replace t1 := Tab.mono t1 ba
  replace t2 := Tab.mono t2 ba
  replace kx := Cs.mono kx ba (Nat.le_refl _)
  clear ba
  generalize v3.alloc (.cells #[] 23) = v4 at O0 t1 t2 kx b0 ⊢
  generalize v3.heap.size = g4 at O0 ⊢
  go_wp2_with (first | (at_make; refine Stop.un ?_) | (at_builtin; refine Stop.un ?_))
  refine Stop.mk (app_rws w _ _ rfl rfl O0 rfl rfl HXY.out.1 t1.cs (by omega) ?_)
  intro a5 c5 w5 O5 gq5 kq5
  have BB := Own.below O5
  clear t1 t2 kx b0 gq5 kq5 O0
  have t1 := HT.out.1.mono BB
  have t2 := HT.out.2.1.mono BB
  have kx := HT.out.2.2.mono BB (Nat.le_refl _)
  have b0 := BB
  clear BB
  simp only [Nat.zero_add, List.nil_append] at O5 ⊢
  go_wp2_with (first | (at_make; refine Stop.un ?_) | (at_builtin; refine Stop.un ?_))
  refine Stop.mk (app_rws w _ _ rfl rfl O5 rfl rfl HXY.out.2.1 t2.cs (by omega) ?_)
  intro a6 c6 w6 O6 gq6 kq6
  have BB := Own.below O6
  clear t1 t2 kx b0 gq6 kq6 O5
  have t1 := HT.out.1.mono BB
  have t2 := HT.out.2.1.mono BB
  have kx := HT.out.2.2.mono BB (Nat.le_refl _)
  have b0 := BB
  clear BB
  have cA := Own.cs O6
  have leA := owns_le O6.1
  have mxA := owns_max O6.1
  have tA : Tab w6 a6 (x ++ y) := ⟨cA, fun r hr => by
    rcases List.mem_append.1 hr with hr | hr
    · exact t1.ok r hr
    · exact t2.ok r hr⟩
  clear O6 cA
  have HLN := Lib.hid (And.intro (fun r hr => (t1.ok r hr).len) (fun r hr => (t2.ok r hr).len))
  go_wp2_with (first | (at_make; refine Stop.un ?_) | (at_builtin; refine Stop.un ?_))
  refine (HS1.out _ t1 kx).mono ?_
  rintro e v15 ⟨g1, q1, rfl, o1, hr1⟩
  have bt := o1.below
  have u1 := o1.tab
  have HR1 := Lib.hid hr1
  have HO1 := Lib.hid (fun r hr => (o1.ok r hr).1.len)
  replace b0 := Below.next b0 bt
  replace t1 := Tab.mono t1 bt
  replace t2 := Tab.mono t2 bt
  replace kx := Cs.mono kx bt (Nat.le_refl _)
  replace tA := Tab.mono tA bt
  clear bt o1 hr1
  have HN1 : Hid (q1.length = i) := Lib.hid (by have := congrArg List.length HR1.out; rw [List.length_map] at this; rw [this]; unfold sortL; rw [sortB_length, List.length_map]; exact HXY.out.1)
  have HW1 : Hid (∀ r ∈ q1, r.n ≤ 1000000) := Lib.hid (short_of HR1.out (sortL_perm _ _) (fun r hr => u1.ok r hr) HLN.out.1 1000000 HXY.out.2.2.1)
  go_wp2_with (first | (at_make; refine Stop.un ?_) | (at_builtin; refine Stop.un ?_))
  refine (HS2.out _ t2 kx).mono ?_
  rintro e v16 ⟨g2, q2, rfl, o2, hr2⟩
  have bt := o2.below
  have u2 := o2.tab
  have HR2 := Lib.hid hr2
  have HO2 := Lib.hid (fun r hr => (o2.ok r hr).1.len)
  replace b0 := Below.next b0 bt
  replace t1 := Tab.mono t1 bt
  replace t2 := Tab.mono t2 bt
  replace kx := Cs.mono kx bt (Nat.le_refl _)
  replace tA := Tab.mono tA bt
  replace u1 := Tab.mono u1 bt
  clear bt o2 hr2
  have HN2 : Hid (q2.length = k) := Lib.hid (by have := congrArg List.length HR2.out; rw [List.length_map] at this; rw [this]; unfold sortL; rw [sortB_length, List.length_map]; exact HXY.out.2.1)
  have HW2 : Hid (∀ r ∈ q2, r.n ≤ 1000000) := Lib.hid (short_of HR2.out (sortL_perm _ _) (fun r hr => u2.ok r hr) HLN.out.2 1000000 HXY.out.2.2.2)
  go_wp2_with (first | (at_make; refine Stop.un ?_) | (at_builtin; refine Stop.un ?_))
  refine (omerge_any (some ⟨g1, 0, none⟩) i i q1 (some ⟨g2, 0, none⟩) k k q2 ak f ck kk _ u1 u2 HN1.out HN2.out (Nat.le_refl _) (Nat.le_refl _) (by unfold maxLen; omega) (by unfold maxLen; omega) (by omega) (by omega) HW1.out HW2.out kx HK.out.1 HK.out.2.1 HK.out.2.2).mono ?_
  rintro e v17 ⟨g3, q3, rfl, o3, hr3⟩
  have bt := o3.below
  have u3 := o3.tab
  have HR3 := Lib.hid hr3
  have HO3 := Lib.hid (fun r hr => (o3.ok r hr).1.len)
  replace b0 := Below.next b0 bt
  replace t1 := Tab.mono t1 bt
  replace t2 := Tab.mono t2 bt
  replace kx := Cs.mono kx bt (Nat.le_refl _)
  replace tA := Tab.mono tA bt
  replace u1 := Tab.mono u1 bt
  replace u2 := Tab.mono u2 bt
  clear bt o3 hr3
  have HN3 : Hid (q3.length = i + k) := Lib.hid (by have := congrArg List.length HR3.out; rw [List.length_map] at this; rw [this]; rw [List.length_map, mergeS_length, HN1.out, HN2.out])
  go_wp2_with (first | (at_make; refine Stop.un ?_) | (at_builtin; refine Stop.un ?_))
  refine (sort_any a6 (i + k) c6 (x ++ y) ak f ck kk _ tA (by rw [List.length_append, HXY.out.1, HXY.out.2.1]) leA mxA (by omega) (fun r hr => (List.mem_append.1 hr).elim (fun hr => HXY.out.2.2.1 r hr) (fun hr => HXY.out.2.2.2 r hr)) kx HK.out.1 HK.out.2.1 HK.out.2.2).mono ?_
  rintro e v18 ⟨g4, q4, rfl, o4, hr4⟩
  have bt := o4.below
  have u4 := o4.tab
  have HR4 := Lib.hid hr4
  have HO4 := Lib.hid (fun r hr => (o4.ok r hr).1.len)
  replace b0 := Below.next b0 bt
  replace t1 := Tab.mono t1 bt
  replace t2 := Tab.mono t2 bt
  replace kx := Cs.mono kx bt (Nat.le_refl _)
  replace tA := Tab.mono tA bt
  replace u1 := Tab.mono u1 bt
  replace u2 := Tab.mono u2 bt
  replace u3 := Tab.mono u3 bt
  clear bt o4 hr4
  have HN4 : Hid (q4.length = i + k) := Lib.hid (by have := congrArg List.length HR4.out; rw [List.length_map] at this; rw [this]; unfold sortL; rw [sortB_length, List.length_map, List.length_append, HXY.out.1, HXY.out.2.1])
  have hs := samerows_any _ (i + k) (i + k) q3 _ (i + k) (i + k) q4 _ u3 u4 HN3.out HN4.out (Nat.le_refl _) (Nat.le_refl _) (by unfold maxLen; omega) (by unfold maxLen; omega)
  rw [decide_eq_true (by rw [HR3.out, HR4.out, mergeL, HR1.out, HR2.out, List.map_append, sortL_app])] at hs
  have HS := Lib.hid hs
  clear hs
  go_wp2_with (first | (at_make; refine Stop.un ?_) | (at_builtin; refine Stop.un ?_))
  refine (HS.out).mono ?_
  rintro e v9 ⟨rfl, bt⟩
  replace b0 := Below.next b0 bt
  replace t1 := Tab.mono t1 bt
  replace t2 := Tab.mono t2 bt
  replace kx := Cs.mono kx bt (Nat.le_refl _)
  replace tA := Tab.mono tA bt
  replace u1 := Tab.mono u1 bt
  replace u2 := Tab.mono u2 bt
  replace u3 := Tab.mono u3 bt
  replace u4 := Tab.mono u4 bt
  clear bt
  go_wp2_with (first | (at_make; refine Stop.un ?_) | (at_builtin; refine Stop.un ?_))
  go_ret
  exact ⟨by first | rfl | simp, b0⟩
end Go.Proofs.Ytoggjieagnlneaa
