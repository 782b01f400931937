/- The head of all statements of layer 16. -/
import Derived.Test.YtfhlbiddhgkcpaaLosS
set_option linter.unusedVariables false
set_option linter.unusedSimpArgs false
namespace Go.Proofs.Ytfhlbiddhgkcpaa
open Go.RowKit
theorem shM : sortL [⟨0, false⟩] ([[numV 1], [numV 4]] ++ [[numV 2]] ++ [] ++ [[numV 1], [numV 3]]) = [[numV 1], [numV 1], [numV 2], [numV 3], [numV 4]] := by decide +kernel
def sh0 : List (Option (List V)) := [some [numV 1], some [numV 2], none, some [numV 1]]
theorem shN0 : nxt [⟨0, false⟩] sh0 = some 0 := by decide +kernel
theorem shN1 : nxt [⟨0, false⟩] (sh0.set 0 (some [numV 4])) = some 3 := by decide +kernel
theorem shN2 : nxt [⟨0, false⟩] ((sh0.set 0 (some [numV 4])).set 3 (some [numV 3])) = some 1 := by decide +kernel
theorem asc2 (a b : List V) (ks : List Ky) (h : cmpR a b ks ≤ 0) : Asc (fun a b => cmpR a b ks) [a, b] := by
  unfold Asc
  simpa using h
theorem asc1 (a : List V) (ks : List Ky) : Asc (fun a b => cmpR a b ks) [a] := by
  unfold Asc
  simp
set_option maxRecDepth 100000 in
set_option maxHeartbeats 8000000 in
theorem shown_any16 (w : World) : Calls Try.prog 7 #[] w (fun e w' => e = .returned (.bool true) ∧ Below w.heap.size w w') := by
  go_enter Try.func7, Try.ntmps7
  have b0 : Below w.heap.size w w := Below.refl _ _
  have zk : At (w.alloc (.cells #[.int .i64 0, .bool false] 51)) (w.heap.size) #[.int .i64 0, .bool false] 51 := by simpa only [World.size_alloc, Nat.add_assoc, Nat.reduceAdd] using At.new w #[.int .i64 0, .bool false] 51
  have BB : Below w.heap.size w (w.alloc (.cells #[.int .i64 0, .bool false] 51)) := Below.alloc (Below.refl w.heap.size w) (by (try simp only [World.size_alloc]) <;> omega) (.cells #[.int .i64 0, .bool false] 51)
  replace b0 := Below.next b0 BB
  clear BB
  go_wp2_with (first | (at_make; refine Stop.un ?_) | (at_builtin; refine Stop.un ?_))
  refine (num_any16 1 _).mono ?_
  rintro e w1 ⟨g1, rfl, bt, z1⟩
  replace b0 := Below.next b0 bt
  replace zk := At.mono zk bt
  clear bt
  go_wp2_with (first | (at_make; refine Stop.un ?_) | (at_builtin; refine Stop.un ?_))
  refine (num_any16 4 _).mono ?_
  rintro e w2 ⟨g2, rfl, bt, z2⟩
  replace b0 := Below.next b0 bt
  replace zk := At.mono zk bt
  replace z1 := At.mono z1 bt
  clear bt
  have za : At (w2.alloc (.cells #[.slice (some ⟨g1, 0, none⟩) 1 1, .slice (some ⟨g2, 0, none⟩) 1 1] 26)) (w2.heap.size) #[.slice (some ⟨g1, 0, none⟩) 1 1, .slice (some ⟨g2, 0, none⟩) 1 1] 26 := by simpa only [World.size_alloc, Nat.add_assoc, Nat.reduceAdd] using At.new w2 #[.slice (some ⟨g1, 0, none⟩) 1 1, .slice (some ⟨g2, 0, none⟩) 1 1] 26
  have BB : Below w2.heap.size w2 (w2.alloc (.cells #[.slice (some ⟨g1, 0, none⟩) 1 1, .slice (some ⟨g2, 0, none⟩) 1 1] 26)) := Below.alloc (Below.refl w2.heap.size w2) (by (try simp only [World.size_alloc]) <;> omega) (.cells #[.slice (some ⟨g1, 0, none⟩) 1 1, .slice (some ⟨g2, 0, none⟩) 1 1] 26)
  replace b0 := Below.next b0 BB
  replace zk := At.mono zk BB
  replace z1 := At.mono z1 BB
  replace z2 := At.mono z2 BB
  clear BB
  go_wp2_with (first | (at_make; refine Stop.un ?_) | (at_builtin; refine Stop.un ?_))
  refine (num_any16 2 _).mono ?_
  rintro e w3 ⟨g3, rfl, bt, z3⟩
  replace b0 := Below.next b0 bt
  replace zk := At.mono zk bt
  replace z1 := At.mono z1 bt
  replace z2 := At.mono z2 bt
  replace za := At.mono za bt
  clear bt
  have zb : At (w3.alloc (.cells #[.slice (some ⟨g3, 0, none⟩) 1 1] 26)) (w3.heap.size) #[.slice (some ⟨g3, 0, none⟩) 1 1] 26 := by simpa only [World.size_alloc, Nat.add_assoc, Nat.reduceAdd] using At.new w3 #[.slice (some ⟨g3, 0, none⟩) 1 1] 26
  have BB : Below w3.heap.size w3 (w3.alloc (.cells #[.slice (some ⟨g3, 0, none⟩) 1 1] 26)) := Below.alloc (Below.refl w3.heap.size w3) (by (try simp only [World.size_alloc]) <;> omega) (.cells #[.slice (some ⟨g3, 0, none⟩) 1 1] 26)
  replace b0 := Below.next b0 BB
  replace zk := At.mono zk BB
  replace z1 := At.mono z1 BB
  replace z2 := At.mono z2 BB
  replace za := At.mono za BB
  replace z3 := At.mono z3 BB
  clear BB
  go_wp2_with (first | (at_make; refine Stop.un ?_) | (at_builtin; refine Stop.un ?_))
  refine (num_any16 1 _).mono ?_
  rintro e w4 ⟨g4, rfl, bt, z4⟩
  replace b0 := Below.next b0 bt
  replace zk := At.mono zk bt
  replace z1 := At.mono z1 bt
  replace z2 := At.mono z2 bt
  replace za := At.mono za bt
  replace z3 := At.mono z3 bt
  replace zb := At.mono zb bt
  clear bt
  go_wp2_with (first | (at_make; refine Stop.un ?_) | (at_builtin; refine Stop.un ?_))
  refine (num_any16 3 _).mono ?_
  rintro e w5 ⟨g5, rfl, bt, z5⟩
  replace b0 := Below.next b0 bt
  replace zk := At.mono zk bt
  replace z1 := At.mono z1 bt
  replace z2 := At.mono z2 bt
  replace za := At.mono za bt
  replace z3 := At.mono z3 bt
  replace zb := At.mono zb bt
  replace z4 := At.mono z4 bt
  clear bt
  have zc : At ((w5.alloc (.cells #[.slice (some ⟨g4, 0, none⟩) 1 1, .slice (some ⟨g5, 0, none⟩) 1 1] 26)).alloc (.cells #[.slice (some ⟨w2.heap.size, 0, none⟩) 2 2, .slice (some ⟨w3.heap.size, 0, none⟩) 1 1, .slice none 0 0, .slice (some ⟨w5.heap.size, 0, none⟩) 2 2] 22)) (w5.heap.size) #[.slice (some ⟨g4, 0, none⟩) 1 1, .slice (some ⟨g5, 0, none⟩) 1 1] 26 := by simpa only [World.size_alloc, Nat.add_assoc, Nat.reduceAdd] using (At.new w5 #[.slice (some ⟨g4, 0, none⟩) 1 1, .slice (some ⟨g5, 0, none⟩) 1 1] 26).alloc (.cells #[.slice (some ⟨w2.heap.size, 0, none⟩) 2 2, .slice (some ⟨w3.heap.size, 0, none⟩) 1 1, .slice none 0 0, .slice (some ⟨w5.heap.size, 0, none⟩) 2 2] 22)
  have zl : At ((w5.alloc (.cells #[.slice (some ⟨g4, 0, none⟩) 1 1, .slice (some ⟨g5, 0, none⟩) 1 1] 26)).alloc (.cells #[.slice (some ⟨w2.heap.size, 0, none⟩) 2 2, .slice (some ⟨w3.heap.size, 0, none⟩) 1 1, .slice none 0 0, .slice (some ⟨w5.heap.size, 0, none⟩) 2 2] 22)) (w5.heap.size + 1) #[.slice (some ⟨w2.heap.size, 0, none⟩) 2 2, .slice (some ⟨w3.heap.size, 0, none⟩) 1 1, .slice none 0 0, .slice (some ⟨w5.heap.size, 0, none⟩) 2 2] 22 := by simpa only [World.size_alloc, Nat.add_assoc, Nat.reduceAdd] using At.new (w5.alloc (.cells #[.slice (some ⟨g4, 0, none⟩) 1 1, .slice (some ⟨g5, 0, none⟩) 1 1] 26)) #[.slice (some ⟨w2.heap.size, 0, none⟩) 2 2, .slice (some ⟨w3.heap.size, 0, none⟩) 1 1, .slice none 0 0, .slice (some ⟨w5.heap.size, 0, none⟩) 2 2] 22
  have BB : Below w5.heap.size w5 ((w5.alloc (.cells #[.slice (some ⟨g4, 0, none⟩) 1 1, .slice (some ⟨g5, 0, none⟩) 1 1] 26)).alloc (.cells #[.slice (some ⟨w2.heap.size, 0, none⟩) 2 2, .slice (some ⟨w3.heap.size, 0, none⟩) 1 1, .slice none 0 0, .slice (some ⟨w5.heap.size, 0, none⟩) 2 2] 22)) := Below.alloc (Below.alloc (Below.refl w5.heap.size w5) (by (try simp only [World.size_alloc]) <;> omega) (.cells #[.slice (some ⟨g4, 0, none⟩) 1 1, .slice (some ⟨g5, 0, none⟩) 1 1] 26)) (by (try simp only [World.size_alloc]) <;> omega) (.cells #[.slice (some ⟨w2.heap.size, 0, none⟩) 2 2, .slice (some ⟨w3.heap.size, 0, none⟩) 1 1, .slice none 0 0, .slice (some ⟨w5.heap.size, 0, none⟩) 2 2] 22)
  replace b0 := Below.next b0 BB
  replace zk := At.mono zk BB
  replace z1 := At.mono z1 BB
  replace z2 := At.mono z2 BB
  replace za := At.mono za BB
  replace z3 := At.mono z3 BB
  replace zb := At.mono zb BB
  replace z4 := At.mono z4 BB
  replace z5 := At.mono z5 BB
  clear BB
  have tA := tabN (rs := [oneRw g1 (numV 1), oneRw g2 (numV 4)]) za (fun r hr => by
    simp only [List.mem_cons, List.not_mem_nil, or_false] at hr
    rcases hr with rfl | rfl
    · exact (oneRw_ok (v := numV 1) z1 (by decide))
    · exact (oneRw_ok (v := numV 4) z2 (by decide)))
  have tB := tabN (rs := [oneRw g3 (numV 2)]) zb (fun r hr => by rw [List.mem_singleton.1 hr]; exact (oneRw_ok (v := numV 2) z3 (by decide)))
  have tC := tabN (rs := [oneRw g4 (numV 1), oneRw g5 (numV 3)]) zc (fun r hr => by
    simp only [List.mem_cons, List.not_mem_nil, or_false] at hr
    rcases hr with rfl | rfl
    · exact (oneRw_ok (v := numV 1) z4 (by decide))
    · exact (oneRw_ok (v := numV 3) z5 (by decide)))
  have tL := listsN (ls := [⟨some ⟨w2.heap.size, 0, none⟩, 2, 2, [oneRw g1 (numV 1), oneRw g2 (numV 4)]⟩, ⟨some ⟨w3.heap.size, 0, none⟩, 1, 1, [oneRw g3 (numV 2)]⟩, ⟨none, 0, 0, []⟩, ⟨some ⟨w5.heap.size, 0, none⟩, 2, 2, [oneRw g4 (numV 1), oneRw g5 (numV 3)]⟩]) zl (fun r hr => by
    simp only [List.mem_cons, List.not_mem_nil, or_false] at hr
    rcases hr with rfl | rfl | rfl | rfl
    · exact lwN tA (show (2 : Nat) ≤ maxLen by decide)
    · exact lwN tB (show (1 : Nat) ≤ maxLen by decide)
    · exact lwNil _
    · exact lwN tC (show (2 : Nat) ≤ maxLen by decide))
  have hmg := merge_any _ 4 4 _ (some ⟨w.heap.size, 0, none⟩) 1 1 [⟨0, false⟩] _ tL rfl (by decide) (by decide) (by decide) (fun r hr => by
    simp only [List.mem_cons, List.not_mem_nil, or_false] at hr
    rcases hr with rfl | rfl | rfl | rfl
    · exact fun r hr => by
        simp only [List.mem_cons, List.not_mem_nil, or_false] at hr
        rcases hr with rfl | rfl <;> exact Nat.le_of_ble_eq_true rfl
    · exact fun r hr => by
        rw [List.mem_singleton.1 hr]; exact Nat.le_of_ble_eq_true rfl
    · exact fun r hr => by cases hr
    · exact fun r hr => by
        simp only [List.mem_cons, List.not_mem_nil, or_false] at hr
        rcases hr with rfl | rfl <;> exact Nat.le_of_ble_eq_true rfl) (fun r hr => by
    simp only [List.mem_cons, List.not_mem_nil, or_false] at hr
    rcases hr with rfl | rfl | rfl | rfl
    · exact asc2 _ _ _ (show cmpR [numV 1] [numV 4] [⟨0, false⟩] ≤ 0 by decide +kernel)
    · exact asc1 _ _
    · exact List.Pairwise.nil
    · exact asc2 _ _ _ (show cmpR [numV 1] [numV 3] [⟨0, false⟩] ≤ 0 by decide +kernel)) (show (5 : Nat) ≤ 100000 by decide) (At.cs15 (xs := kcells [⟨0, false⟩]) zk) rfl (by decide) (by decide) (by decide)
  have HMG := Lib.hid hmg
  clear hmg tA tB tC tL
  go_wp2_with (first | (at_make; refine Stop.un ?_) | (at_builtin; refine Stop.un ?_))
  refine HMG.out.mono ?_
  rintro e wM ⟨ab, NN, cb, rm, rfl, OM, okM, hM⟩
  have bt := Below.mono (Own.below OM) (Nat.le_refl _)
  clear z1
  clear z2
  clear z3
  clear z4
  clear z5
  clear za
  clear zb
  clear zc
  clear zl
  replace b0 := Below.next b0 bt
  replace zk := At.mono zk bt
  have HW0 : Hid (w.heap.size ≤ wM.heap.size) := Lib.hid b0.size
  have tM : Tab wM ab rm := ⟨Own.cs OM, okM⟩
  have hMe : rm.map (·.l) = [[numV 1], [numV 1], [numV 2], [numV 3], [numV 4]] := hM.trans shM
  have hN : rm.length = NN := OwnRs.length OM
  have HM := Lib.hid (And.intro hMe (And.intro hN (And.intro (owns_le OM.1) (owns_max OM.1))))
  obtain rfl : NN = 5 := by rw [← hN]; simpa using congrArg List.length hMe
  have bM : Below wM.heap.size wM wM := Below.refl _ _
  clear OM okM hM hMe hN bt HMG
  go_wp2_with (first | (at_make; refine Stop.un ?_) | (at_builtin; refine Stop.un ?_))
  refine (num_any16 1 _).mono ?_
  rintro e w6 ⟨g6, rfl, bt, z6⟩
  replace b0 := Below.next b0 bt
  replace zk := At.mono zk bt
  replace bM := Below.next bM bt
  clear bt
  go_wp2_with (first | (at_make; refine Stop.un ?_) | (at_builtin; refine Stop.un ?_))
  refine (num_any16 2 _).mono ?_
  rintro e w7 ⟨g7, rfl, bt, z7⟩
  replace b0 := Below.next b0 bt
  replace zk := At.mono zk bt
  replace bM := Below.next bM bt
  replace z6 := At.mono z6 bt
  clear bt
  go_wp2_with (first | (at_make; refine Stop.un ?_) | (at_builtin; refine Stop.un ?_))
  refine (num_any16 1 _).mono ?_
  rintro e w8 ⟨g8, rfl, bt, z8⟩
  replace b0 := Below.next b0 bt
  replace zk := At.mono zk bt
  replace bM := Below.next bM bt
  replace z6 := At.mono z6 bt
  replace z7 := At.mono z7 bt
  clear bt
  have zd : At (w8.alloc (.cells #[.slice (some ⟨g6, 0, none⟩) 1 1, .slice (some ⟨g7, 0, none⟩) 1 1, .slice none 0 0, .slice (some ⟨g8, 0, none⟩) 1 1] 26)) (w8.heap.size) #[.slice (some ⟨g6, 0, none⟩) 1 1, .slice (some ⟨g7, 0, none⟩) 1 1, .slice none 0 0, .slice (some ⟨g8, 0, none⟩) 1 1] 26 := by simpa only [World.size_alloc, Nat.add_assoc, Nat.reduceAdd] using At.new w8 #[.slice (some ⟨g6, 0, none⟩) 1 1, .slice (some ⟨g7, 0, none⟩) 1 1, .slice none 0 0, .slice (some ⟨g8, 0, none⟩) 1 1] 26
  have BB : Below w8.heap.size w8 (w8.alloc (.cells #[.slice (some ⟨g6, 0, none⟩) 1 1, .slice (some ⟨g7, 0, none⟩) 1 1, .slice none 0 0, .slice (some ⟨g8, 0, none⟩) 1 1] 26)) := Below.alloc (Below.refl w8.heap.size w8) (by (try simp only [World.size_alloc]) <;> omega) (.cells #[.slice (some ⟨g6, 0, none⟩) 1 1, .slice (some ⟨g7, 0, none⟩) 1 1, .slice none 0 0, .slice (some ⟨g8, 0, none⟩) 1 1] 26)
  replace b0 := Below.next b0 BB
  replace zk := At.mono zk BB
  replace bM := Below.next bM BB
  replace z6 := At.mono z6 BB
  replace z7 := At.mono z7 BB
  replace z8 := At.mono z8 BB
  clear BB
  have tD := tabN (rs := [oneRw g6 (numV 1), oneRw g7 (numV 2), nilRw, oneRw g8 (numV 1)]) zd (fun r hr => by
    simp only [List.mem_cons, List.not_mem_nil, or_false] at hr
    rcases hr with rfl | rfl | rfl | rfl
    · exact (oneRw_ok (v := numV 1) z6 (by decide))
    · exact (oneRw_ok (v := numV 2) z7 (by decide))
    · exact nilRw_ok _
    · exact (oneRw_ok (v := numV 1) z8 (by decide)))
  have hnw := new_any _ 4 4 _ (some ⟨w.heap.size, 0, none⟩) 1 1 [⟨0, false⟩] _ tD rfl (by decide) (by decide) (by decide) (fun r hr => by
    simp only [List.mem_cons, List.not_mem_nil, or_false] at hr
    rcases hr with rfl | rfl | rfl | rfl
    · exact Nat.le_of_ble_eq_true rfl
    · exact Nat.le_of_ble_eq_true rfl
    · exact Nat.le_of_ble_eq_true rfl
    · exact Nat.le_of_ble_eq_true rfl) (At.cs15 (xs := kcells [⟨0, false⟩]) zk) rfl (by decide) (by decide) (by decide)
  have HNW := Lib.hid hnw
  have hsN := bM.size
  have hs0 := b0.size
  clear hnw tD
  go_wp2_with (first | (at_make; refine Stop.un ?_) | (at_builtin; refine Stop.un ?_))
  refine HNW.out.mono ?_
  rintro e wT ⟨tr, H, q, h, S, v, rfl, G, hH, hq, -, bt, hmt, -⟩
  clear z6
  clear z7
  clear z8
  clear zd
  clear zk
  replace b0 := Below.next b0 bt
  replace bM := Below.next bM bt
  have h4 := G.h4
  have HH : Hid (hds H = sh0) := Lib.hid hH
  have HMT : Hid (∀ k, tr.mut k → wM.heap.size ≤ k) := Lib.hid (fun k hk => Nat.le_trans hsN (hmt k hk))
  have hq9 : q ≤ 3 := hq
  clear hH bt hmt HNW hsN hq
  have hnx := next_any _ _ _ _ _ _ _ _ _ G
  rw [HH.out, shN0] at hnx
  have HNX := Lib.hid hnx
  clear hnx
  go_wp2_with (first | (at_make; refine Stop.un ?_) | (at_builtin; refine Stop.un ?_))
  refine HNX.out.mono ?_
  rintro e w9 ⟨rfl, bt⟩
  clear HNX
  replace b0 := Below.next b0 bt
  replace bM := Below.next bM bt
  replace G := Gd.below G bt
  clear bt
  unfold nextV
  go_wp2_with (first | (at_make; refine Stop.un ?_) | (at_builtin; refine Stop.un ?_))
  refine (num_any16 4 _).mono ?_
  rintro e w10 ⟨p1, rfl, bt, y1⟩
  replace b0 := Below.next b0 bt
  replace bM := Below.next bM bt
  replace G := Gd.below G bt
  clear bt
  have hpt := put_some _ _ _ _ _ _ _ _ _ G (oneRw p1 (numV 4)) 0 (by rw [HH.out, shN0]) (oneRw_ok (v := numV 4) y1 (by decide)) (Nat.le_of_ble_eq_true rfl) (by omega)
  have HPT := Lib.hid hpt
  have hs5 := bM.size
  clear hpt
  go_wp2_with (first | (at_make; refine Stop.un ?_) | (at_builtin; refine Stop.un ?_))
  refine HPT.out.mono ?_
  rintro e w11 ⟨rfl, H1, q1, S1, v1, G1, hH1, hq1, o1⟩
  clear HPT G
  clear y1
  replace bM := bM.trans (o1.low HMT.out hs5)
  replace b0 := b0.trans (o1.low (B := w.heap.size) (fun y hy => Nat.le_trans HW0.out (HMT.out y hy)) (Nat.le_trans HW0.out hs5))
  rw [HH.out] at hH1
  clear HH
  have HH : Hid (hds H1 = (sh0.set 0 (some [numV 4]))) := Lib.hid hH1
  have G := G1
  clear hH1 o1 G1 hs5
  have hnx := next_any _ _ _ _ _ _ _ _ _ G
  rw [HH.out, shN1] at hnx
  have HNX := Lib.hid hnx
  clear hnx
  go_wp2_with (first | (at_make; refine Stop.un ?_) | (at_builtin; refine Stop.un ?_))
  refine HNX.out.mono ?_
  rintro e w12 ⟨rfl, bt⟩
  clear HNX
  replace b0 := Below.next b0 bt
  replace bM := Below.next bM bt
  replace G := Gd.below G bt
  clear bt
  unfold nextV
  go_wp2_with (first | (at_make; refine Stop.un ?_) | (at_builtin; refine Stop.un ?_))
  refine (num_any16 3 _).mono ?_
  rintro e w13 ⟨p2, rfl, bt, y2⟩
  replace b0 := Below.next b0 bt
  replace bM := Below.next bM bt
  replace G := Gd.below G bt
  clear bt
  have hpt := put_some _ _ _ _ _ _ _ _ _ G (oneRw p2 (numV 3)) 3 (by rw [HH.out, shN1]) (oneRw_ok (v := numV 3) y2 (by decide)) (Nat.le_of_ble_eq_true rfl) (by omega)
  have HPT := Lib.hid hpt
  have hs5 := bM.size
  clear hpt
  go_wp2_with (first | (at_make; refine Stop.un ?_) | (at_builtin; refine Stop.un ?_))
  refine HPT.out.mono ?_
  rintro e w14 ⟨rfl, H2, q2, S2, v2, G2, hH2, hq2, o2⟩
  clear HPT G
  clear y2
  replace bM := bM.trans (o2.low HMT.out hs5)
  replace b0 := b0.trans (o2.low (B := w.heap.size) (fun y hy => Nat.le_trans HW0.out (HMT.out y hy)) (Nat.le_trans HW0.out hs5))
  rw [HH.out] at hH2
  clear HH
  have HH : Hid (hds H2 = ((sh0.set 0 (some [numV 4])).set 3 (some [numV 3]))) := Lib.hid hH2
  have G := G2
  clear hH2 o2 G2 hs5
  have hnx := next_any _ _ _ _ _ _ _ _ _ G
  rw [HH.out, shN2] at hnx
  have HNX := Lib.hid hnx
  clear hnx
  go_wp2_with (first | (at_make; refine Stop.un ?_) | (at_builtin; refine Stop.un ?_))
  refine HNX.out.mono ?_
  rintro e w15 ⟨rfl, bt⟩
  clear HNX
  replace b0 := Below.next b0 bt
  replace bM := Below.next bM bt
  replace G := Gd.below G bt
  clear bt
  unfold nextV
  go_wp2_with (first | (at_make; refine Stop.un ?_) | (at_builtin; refine Stop.un ?_))
  refine (num_any16 1 _).mono ?_
  rintro e w16 ⟨f1, rfl, bt, x1⟩
  replace b0 := Below.next b0 bt
  replace bM := Below.next bM bt
  replace G := Gd.below G bt
  clear bt
  go_wp2_with (first | (at_make; refine Stop.un ?_) | (at_builtin; refine Stop.un ?_))
  refine (num_any16 1 _).mono ?_
  rintro e w17 ⟨f2, rfl, bt, x2⟩
  replace b0 := Below.next b0 bt
  replace bM := Below.next bM bt
  replace G := Gd.below G bt
  replace x1 := At.mono x1 bt
  clear bt
  go_wp2_with (first | (at_make; refine Stop.un ?_) | (at_builtin; refine Stop.un ?_))
  refine (num_any16 2 _).mono ?_
  rintro e w18 ⟨f3, rfl, bt, x3⟩
  replace b0 := Below.next b0 bt
  replace bM := Below.next bM bt
  replace G := Gd.below G bt
  replace x1 := At.mono x1 bt
  replace x2 := At.mono x2 bt
  clear bt
  go_wp2_with (first | (at_make; refine Stop.un ?_) | (at_builtin; refine Stop.un ?_))
  refine (num_any16 3 _).mono ?_
  rintro e w19 ⟨f4, rfl, bt, x4⟩
  replace b0 := Below.next b0 bt
  replace bM := Below.next bM bt
  replace G := Gd.below G bt
  replace x1 := At.mono x1 bt
  replace x2 := At.mono x2 bt
  replace x3 := At.mono x3 bt
  clear bt
  go_wp2_with (first | (at_make; refine Stop.un ?_) | (at_builtin; refine Stop.un ?_))
  refine (num_any16 4 _).mono ?_
  rintro e w20 ⟨f5, rfl, bt, x5⟩
  replace b0 := Below.next b0 bt
  replace bM := Below.next bM bt
  replace G := Gd.below G bt
  replace x1 := At.mono x1 bt
  replace x2 := At.mono x2 bt
  replace x3 := At.mono x3 bt
  replace x4 := At.mono x4 bt
  clear bt
  have xt : At (w20.alloc (.cells #[.slice (some ⟨f1, 0, none⟩) 1 1, .slice (some ⟨f2, 0, none⟩) 1 1, .slice (some ⟨f3, 0, none⟩) 1 1, .slice (some ⟨f4, 0, none⟩) 1 1, .slice (some ⟨f5, 0, none⟩) 1 1] 26)) (w20.heap.size) #[.slice (some ⟨f1, 0, none⟩) 1 1, .slice (some ⟨f2, 0, none⟩) 1 1, .slice (some ⟨f3, 0, none⟩) 1 1, .slice (some ⟨f4, 0, none⟩) 1 1, .slice (some ⟨f5, 0, none⟩) 1 1] 26 := by simpa only [World.size_alloc, Nat.add_assoc, Nat.reduceAdd] using At.new w20 #[.slice (some ⟨f1, 0, none⟩) 1 1, .slice (some ⟨f2, 0, none⟩) 1 1, .slice (some ⟨f3, 0, none⟩) 1 1, .slice (some ⟨f4, 0, none⟩) 1 1, .slice (some ⟨f5, 0, none⟩) 1 1] 26
  have BB : Below w20.heap.size w20 (w20.alloc (.cells #[.slice (some ⟨f1, 0, none⟩) 1 1, .slice (some ⟨f2, 0, none⟩) 1 1, .slice (some ⟨f3, 0, none⟩) 1 1, .slice (some ⟨f4, 0, none⟩) 1 1, .slice (some ⟨f5, 0, none⟩) 1 1] 26)) := Below.alloc (Below.refl w20.heap.size w20) (by (try simp only [World.size_alloc]) <;> omega) (.cells #[.slice (some ⟨f1, 0, none⟩) 1 1, .slice (some ⟨f2, 0, none⟩) 1 1, .slice (some ⟨f3, 0, none⟩) 1 1, .slice (some ⟨f4, 0, none⟩) 1 1, .slice (some ⟨f5, 0, none⟩) 1 1] 26)
  replace b0 := Below.next b0 BB
  replace bM := Below.next bM BB
  replace G := Gd.below G BB
  replace x1 := At.mono x1 BB
  replace x2 := At.mono x2 BB
  replace x3 := At.mono x3 BB
  replace x4 := At.mono x4 BB
  replace x5 := At.mono x5 BB
  clear BB
  have tX := tabN (rs := [oneRw f1 (numV 1), oneRw f2 (numV 1), oneRw f3 (numV 2), oneRw f4 (numV 3), oneRw f5 (numV 4)]) xt (fun r hr => by
    simp only [List.mem_cons, List.not_mem_nil, or_false] at hr
    rcases hr with rfl | rfl | rfl | rfl | rfl
    · exact (oneRw_ok (v := numV 1) x1 (by decide))
    · exact (oneRw_ok (v := numV 1) x2 (by decide))
    · exact (oneRw_ok (v := numV 2) x3 (by decide))
    · exact (oneRw_ok (v := numV 3) x4 (by decide))
    · exact (oneRw_ok (v := numV 4) x5 (by decide)))
  have hc := samerows_any _ 5 cb rm _ 5 5 _ _ (tM.mono bM) tX HM.out.2.1 rfl HM.out.2.2.1 (by decide) HM.out.2.2.2 (by decide)
  rw [decide_eq_true (by rw [HM.out.1]; rfl)] at hc
  have HCC := Lib.hid hc
  clear hc tX
  go_wp2_with (first | (at_make; refine Stop.un ?_) | (at_builtin; refine Stop.un ?_))
  refine HCC.out.mono ?_
  rintro e wZ ⟨rfl, bt⟩
  clear HCC
  replace b0 := Below.next b0 bt
  go_wp2_with (first | (at_make; refine Stop.un ?_) | (at_builtin; refine Stop.un ?_))
  go_ret
  exact ⟨by first | rfl | simp, b0⟩
end Go.Proofs.Ytfhlbiddhgkcpaa
