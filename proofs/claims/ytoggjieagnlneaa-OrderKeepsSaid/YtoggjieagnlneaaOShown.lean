/- The head of all statements of layer 15; some first rows and keys. -/
import Derived.Test.YtoggjieagnlneaaOSort
import Derived.Test.YtoggjieagnlneaaOSame
set_option linter.unusedVariables false
set_option linter.unusedSimpArgs false
namespace Go.Proofs.Ytoggjieagnlneaa
open Go.RowKit
theorem At.cs15 {w : World} {g : Nat} {xs : List Value} {t : TypeId} (z : At w g xs.toArray t) : Cs w (some ⟨g, 0, none⟩) xs := by
  intro j u hj
  exact ⟨g, 0, rfl, by rw [Nat.zero_add]; exact z.cell j (by simpa using hj)⟩
def numV (n : Int) : V := ⟨2, n, ⟨#[]⟩⟩
/-- A row of one value, in a block of its own. -/
def oneRw (g : Nat) (v : V) : Rw := ⟨some ⟨g, 0, none⟩, 1, 1, [v]⟩
theorem oneRw_ok {w : World} {g : Nat} {v : V} (z : At w g #[.int .u8 v.k, .int .i64 v.n, .string v.s] 32) (h : 0 ≤ v.k) : RowOk w (oneRw g v) :=
  ⟨At.cs15 (xs := [.int .u8 v.k, .int .i64 v.n, .string v.s]) z, rfl, Nat.le_refl _, by simp [oneRw, maxLen], fun u hu => by rw [List.mem_singleton.1 hu]; exact h⟩
theorem Own2.tab {w w' : World} {g : Nat} {rs : List Rw} (o : Own2 w w' g rs) : Tab w' (some ⟨g, 0, none⟩) rs := ⟨At.cs15 o.at_, fun r hr => (o.ok r hr).1⟩
theorem tab3 {w : World} {g : Nat} {r1 r2 r3 : Rw} (z : At w g #[r1.sl, r2.sl, r3.sl] 23) (h1 : RowOk w r1) (h2 : RowOk w r2) (h3 : RowOk w r3) : Tab w (some ⟨g, 0, none⟩) [r1, r2, r3] :=
  ⟨At.cs15 (xs := [r1.sl, r2.sl, r3.sl]) z, fun r hr => by
    simp only [List.mem_cons, List.not_mem_nil, or_false] at hr
    rcases hr with rfl | rfl | rfl
    · exact h1
    · exact h2
    · exact h3⟩
set_option maxHeartbeats 1000000 in
theorem num_any15 (n : Int) (w : World) : Calls Try.prog 27 #[.int .i64 n] w (fun e w' => ∃ g, e = .returned (.slice (some ⟨g, 0, none⟩) 1 1) ∧ Below w.heap.size w w' ∧ At w' g #[.int .u8 (numV n).k, .int .i64 (numV n).n, .string (numV n).s] 32) := by
  go_enter Try.func27, Try.ntmps27
  go_wp2_with (first | (at_make; refine Stop.un ?_) | (at_builtin; refine Stop.un ?_))
  go_ret
  exact ⟨_, rfl, (Below.refl _ _).alloc (Nat.le_refl _) _, At.new _ _ _⟩
theorem shA : sortL [⟨0, false⟩] [[numV 2], [V.zero], [numV 1]] = [[V.zero], [numV 1], [numV 2]] := by decide +kernel
theorem shB : sortL [⟨0, true⟩] [[numV 2], [V.zero], [numV 1]] = [[V.zero], [numV 2], [numV 1]] := by decide +kernel
set_option maxRecDepth 100000 in
set_option maxHeartbeats 8000000 in
theorem shown_any15 (w : World) : Calls Try.prog 9 #[] w (fun e w' => e = .returned (.bool true) ∧ Below w.heap.size w w') := by
  go_enter Try.func9, Try.ntmps9
  have b0 : Below w.heap.size w w := Below.refl _ _
  go_wp2_with (first | (at_make; refine Stop.un ?_) | (at_builtin; refine Stop.un ?_))
  refine (num_any15 2 _).mono ?_
  rintro e w1 ⟨g1, rfl, bt, z1⟩
  replace b0 := Below.next b0 bt
  clear bt
  have z2 : At (w1.alloc (.cells #[.int .u8 V.zero.k, .int .i64 V.zero.n, .string V.zero.s] 32)) (w1.heap.size) #[.int .u8 V.zero.k, .int .i64 V.zero.n, .string V.zero.s] 32 := by simpa only [World.size_alloc, Nat.add_assoc, Nat.reduceAdd] using At.new w1 #[.int .u8 V.zero.k, .int .i64 V.zero.n, .string V.zero.s] 32
  have BB : Below w1.heap.size w1 (w1.alloc (.cells #[.int .u8 V.zero.k, .int .i64 V.zero.n, .string V.zero.s] 32)) := Below.alloc (Below.refl w1.heap.size w1) (by (try simp only [World.size_alloc]) <;> omega) (.cells #[.int .u8 V.zero.k, .int .i64 V.zero.n, .string V.zero.s] 32)
  replace b0 := Below.next b0 BB
  replace z1 := At.mono z1 BB
  clear BB
  go_wp2_with (first | (at_make; refine Stop.un ?_) | (at_builtin; refine Stop.un ?_))
  refine (num_any15 1 _).mono ?_
  rintro e w2 ⟨g3, rfl, bt, z3⟩
  replace b0 := Below.next b0 bt
  replace z1 := At.mono z1 bt
  replace z2 := At.mono z2 bt
  clear bt
  have z8 : At ((w2.alloc (.cells #[.slice (some ⟨g1, 0, none⟩) 1 1, .slice (some ⟨w1.heap.size, 0, none⟩) 1 1, .slice (some ⟨g3, 0, none⟩) 1 1] 23)).alloc (.cells #[.int .i64 0, .bool false] 34)) (w2.heap.size) #[.slice (some ⟨g1, 0, none⟩) 1 1, .slice (some ⟨w1.heap.size, 0, none⟩) 1 1, .slice (some ⟨g3, 0, none⟩) 1 1] 23 := by simpa only [World.size_alloc, Nat.add_assoc, Nat.reduceAdd] using (At.new w2 #[.slice (some ⟨g1, 0, none⟩) 1 1, .slice (some ⟨w1.heap.size, 0, none⟩) 1 1, .slice (some ⟨g3, 0, none⟩) 1 1] 23).alloc (.cells #[.int .i64 0, .bool false] 34)
  have zk : At ((w2.alloc (.cells #[.slice (some ⟨g1, 0, none⟩) 1 1, .slice (some ⟨w1.heap.size, 0, none⟩) 1 1, .slice (some ⟨g3, 0, none⟩) 1 1] 23)).alloc (.cells #[.int .i64 0, .bool false] 34)) (w2.heap.size + 1) #[.int .i64 0, .bool false] 34 := by simpa only [World.size_alloc, Nat.add_assoc, Nat.reduceAdd] using At.new (w2.alloc (.cells #[.slice (some ⟨g1, 0, none⟩) 1 1, .slice (some ⟨w1.heap.size, 0, none⟩) 1 1, .slice (some ⟨g3, 0, none⟩) 1 1] 23)) #[.int .i64 0, .bool false] 34
  have BB : Below w2.heap.size w2 ((w2.alloc (.cells #[.slice (some ⟨g1, 0, none⟩) 1 1, .slice (some ⟨w1.heap.size, 0, none⟩) 1 1, .slice (some ⟨g3, 0, none⟩) 1 1] 23)).alloc (.cells #[.int .i64 0, .bool false] 34)) := Below.alloc (Below.alloc (Below.refl w2.heap.size w2) (by (try simp only [World.size_alloc]) <;> omega) (.cells #[.slice (some ⟨g1, 0, none⟩) 1 1, .slice (some ⟨w1.heap.size, 0, none⟩) 1 1, .slice (some ⟨g3, 0, none⟩) 1 1] 23)) (by (try simp only [World.size_alloc]) <;> omega) (.cells #[.int .i64 0, .bool false] 34)
  replace b0 := Below.next b0 BB
  replace z1 := At.mono z1 BB
  replace z2 := At.mono z2 BB
  replace z3 := At.mono z3 BB
  clear BB
  have ht := (tab3 (r1 := oneRw g1 (numV 2)) (r2 := oneRw (w1.heap.size) V.zero) (r3 := oneRw g3 (numV 1)) z8 (oneRw_ok (v := (numV 2)) z1 (by decide)) (oneRw_ok (v := V.zero) z2 (by decide)) (oneRw_ok (v := (numV 1)) z3 (by decide)))
  go_wp2_with (first | (at_make; refine Stop.un ?_) | (at_builtin; refine Stop.un ?_))
  refine (sort_small _ 3 3 _ _ 1 1 [⟨0, false⟩] _ ht rfl (by decide) (by decide) (by decide) (by intro r hr; simp [oneRw] at hr; rcases hr with rfl | rfl | rfl <;> exact Nat.le_of_ble_eq_true rfl) (At.cs15 (xs := kcells [⟨0, false⟩]) zk) rfl (by decide) (by decide)).mono ?_
  clear ht
  rintro e w3 ⟨q1, rs1, rfl, o1, hr1⟩
  rw [show sortL [⟨0, false⟩] (List.map (·.l) [oneRw g1 (numV 2), oneRw (w1.heap.size) V.zero, oneRw g3 (numV 1)]) = _ from shA] at hr1
  have HR1 := Lib.hid hr1
  have bt := Below.mono o1.below (Nat.le_refl _)
  have t1 := o1.tab
  clear hr1 o1
  replace b0 := Below.next b0 bt
  replace z1 := At.mono z1 bt
  replace z2 := At.mono z2 bt
  replace z3 := At.mono z3 bt
  replace z8 := At.mono z8 bt
  replace zk := At.mono zk bt
  clear bt
  have zl : At (w3.alloc (.cells #[.int .i64 0, .bool true] 34)) (w3.heap.size) #[.int .i64 0, .bool true] 34 := by simpa only [World.size_alloc, Nat.add_assoc, Nat.reduceAdd] using At.new w3 #[.int .i64 0, .bool true] 34
  have BB : Below w3.heap.size w3 (w3.alloc (.cells #[.int .i64 0, .bool true] 34)) := Below.alloc (Below.refl w3.heap.size w3) (by (try simp only [World.size_alloc]) <;> omega) (.cells #[.int .i64 0, .bool true] 34)
  replace b0 := Below.next b0 BB
  replace z1 := At.mono z1 BB
  replace z2 := At.mono z2 BB
  replace z3 := At.mono z3 BB
  replace z8 := At.mono z8 BB
  replace zk := At.mono zk BB
  replace t1 := Tab.mono t1 BB
  clear BB
  have ht := (tab3 (r1 := oneRw g1 (numV 2)) (r2 := oneRw (w1.heap.size) V.zero) (r3 := oneRw g3 (numV 1)) z8 (oneRw_ok (v := (numV 2)) z1 (by decide)) (oneRw_ok (v := V.zero) z2 (by decide)) (oneRw_ok (v := (numV 1)) z3 (by decide)))
  go_wp2_with (first | (at_make; refine Stop.un ?_) | (at_builtin; refine Stop.un ?_))
  refine (sort_small _ 3 3 _ _ 1 1 [⟨0, true⟩] _ ht rfl (by decide) (by decide) (by decide) (by intro r hr; simp [oneRw] at hr; rcases hr with rfl | rfl | rfl <;> exact Nat.le_of_ble_eq_true rfl) (At.cs15 (xs := kcells [⟨0, true⟩]) zl) rfl (by decide) (by decide)).mono ?_
  clear ht
  rintro e w4 ⟨q2, rs2, rfl, o2, hr2⟩
  rw [show sortL [⟨0, true⟩] (List.map (·.l) [oneRw g1 (numV 2), oneRw (w1.heap.size) V.zero, oneRw g3 (numV 1)]) = _ from shB] at hr2
  have HR2 := Lib.hid hr2
  have bt := Below.mono o2.below (Nat.le_refl _)
  have t2 := o2.tab
  clear hr2 o2
  replace b0 := Below.next b0 bt
  replace z1 := At.mono z1 bt
  replace z2 := At.mono z2 bt
  replace z3 := At.mono z3 bt
  replace z8 := At.mono z8 bt
  replace zk := At.mono zk bt
  replace t1 := Tab.mono t1 bt
  replace zl := At.mono zl bt
  clear bt
  have y10 : At (w4.alloc (.cells #[.int .u8 V.zero.k, .int .i64 V.zero.n, .string V.zero.s] 32)) (w4.heap.size) #[.int .u8 V.zero.k, .int .i64 V.zero.n, .string V.zero.s] 32 := by simpa only [World.size_alloc, Nat.add_assoc, Nat.reduceAdd] using At.new w4 #[.int .u8 V.zero.k, .int .i64 V.zero.n, .string V.zero.s] 32
  have BB : Below w4.heap.size w4 (w4.alloc (.cells #[.int .u8 V.zero.k, .int .i64 V.zero.n, .string V.zero.s] 32)) := Below.alloc (Below.refl w4.heap.size w4) (by (try simp only [World.size_alloc]) <;> omega) (.cells #[.int .u8 V.zero.k, .int .i64 V.zero.n, .string V.zero.s] 32)
  replace b0 := Below.next b0 BB
  replace z1 := At.mono z1 BB
  replace z2 := At.mono z2 BB
  replace z3 := At.mono z3 BB
  replace z8 := At.mono z8 BB
  replace zk := At.mono zk BB
  replace t1 := Tab.mono t1 BB
  replace zl := At.mono zl BB
  replace t2 := Tab.mono t2 BB
  clear BB
  go_wp2_with (first | (at_make; refine Stop.un ?_) | (at_builtin; refine Stop.un ?_))
  refine (num_any15 1 _).mono ?_
  rintro e w5 ⟨p1a, rfl, bt, y1a⟩
  replace b0 := Below.next b0 bt
  replace z1 := At.mono z1 bt
  replace z2 := At.mono z2 bt
  replace z3 := At.mono z3 bt
  replace z8 := At.mono z8 bt
  replace zk := At.mono zk bt
  replace t1 := Tab.mono t1 bt
  replace zl := At.mono zl bt
  replace t2 := Tab.mono t2 bt
  replace y10 := At.mono y10 bt
  clear bt
  go_wp2_with (first | (at_make; refine Stop.un ?_) | (at_builtin; refine Stop.un ?_))
  refine (num_any15 2 _).mono ?_
  rintro e w6 ⟨p1b, rfl, bt, y1b⟩
  replace b0 := Below.next b0 bt
  replace z1 := At.mono z1 bt
  replace z2 := At.mono z2 bt
  replace z3 := At.mono z3 bt
  replace z8 := At.mono z8 bt
  replace zk := At.mono zk bt
  replace t1 := Tab.mono t1 bt
  replace zl := At.mono zl bt
  replace t2 := Tab.mono t2 bt
  replace y10 := At.mono y10 bt
  replace y1a := At.mono y1a bt
  clear bt
  have y1t : At (w6.alloc (.cells #[.slice (some ⟨w4.heap.size, 0, none⟩) 1 1, .slice (some ⟨p1a, 0, none⟩) 1 1, .slice (some ⟨p1b, 0, none⟩) 1 1] 23)) (w6.heap.size) #[.slice (some ⟨w4.heap.size, 0, none⟩) 1 1, .slice (some ⟨p1a, 0, none⟩) 1 1, .slice (some ⟨p1b, 0, none⟩) 1 1] 23 := by simpa only [World.size_alloc, Nat.add_assoc, Nat.reduceAdd] using At.new w6 #[.slice (some ⟨w4.heap.size, 0, none⟩) 1 1, .slice (some ⟨p1a, 0, none⟩) 1 1, .slice (some ⟨p1b, 0, none⟩) 1 1] 23
  have BB : Below w6.heap.size w6 (w6.alloc (.cells #[.slice (some ⟨w4.heap.size, 0, none⟩) 1 1, .slice (some ⟨p1a, 0, none⟩) 1 1, .slice (some ⟨p1b, 0, none⟩) 1 1] 23)) := Below.alloc (Below.refl w6.heap.size w6) (by (try simp only [World.size_alloc]) <;> omega) (.cells #[.slice (some ⟨w4.heap.size, 0, none⟩) 1 1, .slice (some ⟨p1a, 0, none⟩) 1 1, .slice (some ⟨p1b, 0, none⟩) 1 1] 23)
  replace b0 := Below.next b0 BB
  replace z1 := At.mono z1 BB
  replace z2 := At.mono z2 BB
  replace z3 := At.mono z3 BB
  replace z8 := At.mono z8 BB
  replace zk := At.mono zk BB
  replace t1 := Tab.mono t1 BB
  replace zl := At.mono zl BB
  replace t2 := Tab.mono t2 BB
  replace y10 := At.mono y10 BB
  replace y1a := At.mono y1a BB
  replace y1b := At.mono y1b BB
  clear BB
  have ht := (tab3 (r1 := oneRw (w4.heap.size) V.zero) (r2 := oneRw p1a (numV 1)) (r3 := oneRw p1b (numV 2)) y1t (oneRw_ok (v := V.zero) y10 (by decide)) (oneRw_ok (v := (numV 1)) y1a (by decide)) (oneRw_ok (v := (numV 2)) y1b (by decide)))
  have hc := samerows_any _ 3 3 rs1 _ 3 3 _ _ t1 ht (by have h := congrArg List.length HR1.out; simpa using h) rfl (by decide) (by decide) (by decide) (by decide)
  rw [decide_eq_true (by rw [HR1.out]; rfl)] at hc
  have HCC := Lib.hid hc
  clear hc ht
  go_wp2_with (first | (at_make; refine Stop.un ?_) | (at_builtin; refine Stop.un ?_))
  refine HCC.out.mono ?_
  rintro e w7 ⟨rfl, bt⟩
  clear HCC
  replace b0 := Below.next b0 bt
  replace z1 := At.mono z1 bt
  replace z2 := At.mono z2 bt
  replace z3 := At.mono z3 bt
  replace z8 := At.mono z8 bt
  replace zk := At.mono zk bt
  replace t1 := Tab.mono t1 bt
  replace zl := At.mono zl bt
  replace t2 := Tab.mono t2 bt
  replace y10 := At.mono y10 bt
  replace y1a := At.mono y1a bt
  replace y1b := At.mono y1b bt
  replace y1t := At.mono y1t bt
  clear bt
  have y20 : At (w7.alloc (.cells #[.int .u8 V.zero.k, .int .i64 V.zero.n, .string V.zero.s] 32)) (w7.heap.size) #[.int .u8 V.zero.k, .int .i64 V.zero.n, .string V.zero.s] 32 := by simpa only [World.size_alloc, Nat.add_assoc, Nat.reduceAdd] using At.new w7 #[.int .u8 V.zero.k, .int .i64 V.zero.n, .string V.zero.s] 32
  have BB : Below w7.heap.size w7 (w7.alloc (.cells #[.int .u8 V.zero.k, .int .i64 V.zero.n, .string V.zero.s] 32)) := Below.alloc (Below.refl w7.heap.size w7) (by (try simp only [World.size_alloc]) <;> omega) (.cells #[.int .u8 V.zero.k, .int .i64 V.zero.n, .string V.zero.s] 32)
  replace b0 := Below.next b0 BB
  replace z1 := At.mono z1 BB
  replace z2 := At.mono z2 BB
  replace z3 := At.mono z3 BB
  replace z8 := At.mono z8 BB
  replace zk := At.mono zk BB
  replace t1 := Tab.mono t1 BB
  replace zl := At.mono zl BB
  replace t2 := Tab.mono t2 BB
  replace y10 := At.mono y10 BB
  replace y1a := At.mono y1a BB
  replace y1b := At.mono y1b BB
  replace y1t := At.mono y1t BB
  clear BB
  go_wp2_with (first | (at_make; refine Stop.un ?_) | (at_builtin; refine Stop.un ?_))
  refine (num_any15 2 _).mono ?_
  rintro e w8 ⟨p2a, rfl, bt, y2a⟩
  replace b0 := Below.next b0 bt
  replace z1 := At.mono z1 bt
  replace z2 := At.mono z2 bt
  replace z3 := At.mono z3 bt
  replace z8 := At.mono z8 bt
  replace zk := At.mono zk bt
  replace t1 := Tab.mono t1 bt
  replace zl := At.mono zl bt
  replace t2 := Tab.mono t2 bt
  replace y10 := At.mono y10 bt
  replace y1a := At.mono y1a bt
  replace y1b := At.mono y1b bt
  replace y1t := At.mono y1t bt
  replace y20 := At.mono y20 bt
  clear bt
  go_wp2_with (first | (at_make; refine Stop.un ?_) | (at_builtin; refine Stop.un ?_))
  refine (num_any15 1 _).mono ?_
  rintro e w9 ⟨p2b, rfl, bt, y2b⟩
  replace b0 := Below.next b0 bt
  replace z1 := At.mono z1 bt
  replace z2 := At.mono z2 bt
  replace z3 := At.mono z3 bt
  replace z8 := At.mono z8 bt
  replace zk := At.mono zk bt
  replace t1 := Tab.mono t1 bt
  replace zl := At.mono zl bt
  replace t2 := Tab.mono t2 bt
  replace y10 := At.mono y10 bt
  replace y1a := At.mono y1a bt
  replace y1b := At.mono y1b bt
  replace y1t := At.mono y1t bt
  replace y20 := At.mono y20 bt
  replace y2a := At.mono y2a bt
  clear bt
  have y2t : At (w9.alloc (.cells #[.slice (some ⟨w7.heap.size, 0, none⟩) 1 1, .slice (some ⟨p2a, 0, none⟩) 1 1, .slice (some ⟨p2b, 0, none⟩) 1 1] 23)) (w9.heap.size) #[.slice (some ⟨w7.heap.size, 0, none⟩) 1 1, .slice (some ⟨p2a, 0, none⟩) 1 1, .slice (some ⟨p2b, 0, none⟩) 1 1] 23 := by simpa only [World.size_alloc, Nat.add_assoc, Nat.reduceAdd] using At.new w9 #[.slice (some ⟨w7.heap.size, 0, none⟩) 1 1, .slice (some ⟨p2a, 0, none⟩) 1 1, .slice (some ⟨p2b, 0, none⟩) 1 1] 23
  have BB : Below w9.heap.size w9 (w9.alloc (.cells #[.slice (some ⟨w7.heap.size, 0, none⟩) 1 1, .slice (some ⟨p2a, 0, none⟩) 1 1, .slice (some ⟨p2b, 0, none⟩) 1 1] 23)) := Below.alloc (Below.refl w9.heap.size w9) (by (try simp only [World.size_alloc]) <;> omega) (.cells #[.slice (some ⟨w7.heap.size, 0, none⟩) 1 1, .slice (some ⟨p2a, 0, none⟩) 1 1, .slice (some ⟨p2b, 0, none⟩) 1 1] 23)
  replace b0 := Below.next b0 BB
  replace z1 := At.mono z1 BB
  replace z2 := At.mono z2 BB
  replace z3 := At.mono z3 BB
  replace z8 := At.mono z8 BB
  replace zk := At.mono zk BB
  replace t1 := Tab.mono t1 BB
  replace zl := At.mono zl BB
  replace t2 := Tab.mono t2 BB
  replace y10 := At.mono y10 BB
  replace y1a := At.mono y1a BB
  replace y1b := At.mono y1b BB
  replace y1t := At.mono y1t BB
  replace y20 := At.mono y20 BB
  replace y2a := At.mono y2a BB
  replace y2b := At.mono y2b BB
  clear BB
  have ht := (tab3 (r1 := oneRw (w7.heap.size) V.zero) (r2 := oneRw p2a (numV 2)) (r3 := oneRw p2b (numV 1)) y2t (oneRw_ok (v := V.zero) y20 (by decide)) (oneRw_ok (v := (numV 2)) y2a (by decide)) (oneRw_ok (v := (numV 1)) y2b (by decide)))
  have hc := samerows_any _ 3 3 rs2 _ 3 3 _ _ t2 ht (by have h := congrArg List.length HR2.out; simpa using h) rfl (by decide) (by decide) (by decide) (by decide)
  rw [decide_eq_true (by rw [HR2.out]; rfl)] at hc
  have HCC := Lib.hid hc
  clear hc ht
  go_wp2_with (first | (at_make; refine Stop.un ?_) | (at_builtin; refine Stop.un ?_))
  refine HCC.out.mono ?_
  rintro e w10 ⟨rfl, bt⟩
  clear HCC
  replace b0 := Below.next b0 bt
  replace z1 := At.mono z1 bt
  replace z2 := At.mono z2 bt
  replace z3 := At.mono z3 bt
  replace z8 := At.mono z8 bt
  replace zk := At.mono zk bt
  replace t1 := Tab.mono t1 bt
  replace zl := At.mono zl bt
  replace t2 := Tab.mono t2 bt
  replace y10 := At.mono y10 bt
  replace y1a := At.mono y1a bt
  replace y1b := At.mono y1b bt
  replace y1t := At.mono y1t bt
  replace y20 := At.mono y20 bt
  replace y2a := At.mono y2a bt
  replace y2b := At.mono y2b bt
  replace y2t := At.mono y2t bt
  clear bt
  go_wp2_with (first | (at_make; refine Stop.un ?_) | (at_builtin; refine Stop.un ?_))
  go_ret
  exact ⟨rfl, b0⟩
end Go.Proofs.Ytoggjieagnlneaa
