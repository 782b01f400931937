/- OrderCompares. -/
import Derived.Test.YtoggjieagnlneaaOFew
import Derived.Test.YtoggjieagnlneaaOOpen
set_option linter.unusedVariables false
set_option linter.unusedSimpArgs false
namespace Go.Proofs.Ytoggjieagnlneaa
open Go.RowKit
theorem kcut {w : World} {ao : Option Addr} {l : List Ky} (h : Cs w ao (kcells l)) (k : Nat) : Cs w ao (kcells (l.take k)) := by
  have := h.take (k * 2)
  rwa [kcells_take] at this
/-- What is told of three. -/
theorem three_law {x y z : Int} (h : Tri x y z) (h2 : Tri (-y) (-x) (-z)) (hx : 0 < x ∨ 0 < y ∨ (z ≤ 0 ∧ ((x = 0 ∧ y = 0) ↔ z = 0))) : True := trivial
theorem tri_use {x y z : Int} (h : Tri x y z) (hx : x ≤ 0) (hy : y ≤ 0) : z ≤ 0 ∧ ((x == 0 && y == 0) == (z == 0)) = true := by
  have h1 := h.1 hx hy
  refine ⟨h1.1, ?_⟩
  by_cases ez : z = 0
  · have := h1.2 ez
    simp [ez, this.1, this.2]
  · have e3 : (z == 0) = false := beq_eq_false_iff_ne.2 ez
    by_cases ex : x = 0
    · by_cases ey : y = 0
      · exact absurd (h.2 ex ey) ez
      · have e2 : (y == 0) = false := beq_eq_false_iff_ne.2 ey
        rw [e3, e2]; simp
    · have e1 : (x == 0) = false := beq_eq_false_iff_ne.2 ex
      rw [e3, e1]; simp
set_option maxRecDepth 100000 in
set_option maxHeartbeats 8000000 in
theorem orderCompares_any (a1 : Option Addr) (n1 c1 : Nat) (l1 : List V) (a2 : Option Addr) (n2 c2 : Nat) (l2 : List V) (a3 : Option Addr) (n3 c3 : Nat) (l3 : List V) (ak : Option Addr) (p ck : Nat) (ks : List Ky) (w : World)
    (h1 : RowOk w ⟨a1, n1, c1, l1⟩) (h2 : RowOk w ⟨a2, n2, c2, l2⟩) (h3 : RowOk w ⟨a3, n3, c3, l3⟩) (hk : Cs w ak (kcells ks)) (hp : ks.length = p) (hlp : p ≤ ck) (hcm : ck ≤ maxLen) :
    Calls Try.prog 3 #[.slice a1 n1 c1, .slice a2 n2 c2, .slice a3 n3 c3, .slice ak p ck] w (fun e w' => e = .returned (.bool true) ∧ Below w.heap.size w w') := by
  have hx : (ks.take (min p 10)).length = min p 10 := by simp; omega
  have hkx := kcut hk (min p 10)
  generalize ks.take (min p 10) = kx at hx hkx
  have HSOME := Lib.hid (fun w => some_any15 ak p ck w hlp hcm)
  have hfc : min p 10 ≤ ck := by omega
  generalize min p 10 = f at hx HSOME hfc
  have H12 := Lib.hid (fun W h1 h2 hk => ocompare_any a1 n1 c1 l1 a2 n2 c2 l2 ak f ck kx W h1 h2 hk hx hfc hcm)
  have H23 := Lib.hid (fun W h1 h2 hk => ocompare_any a2 n2 c2 l2 a3 n3 c3 l3 ak f ck kx W h1 h2 hk hx hfc hcm)
  have H13 := Lib.hid (fun W h1 h2 hk => ocompare_any a1 n1 c1 l1 a3 n3 c3 l3 ak f ck kx W h1 h2 hk hx hfc hcm)
  have H21 := Lib.hid (fun W h1 h2 hk => ocompare_any a2 n2 c2 l2 a1 n1 c1 l1 ak f ck kx W h1 h2 hk hx hfc hcm)
  have H11 := Lib.hid (fun W h1 h2 hk => ocompare_any a1 n1 c1 l1 a1 n1 c1 l1 ak f ck kx W h1 h2 hk hx hfc hcm)
  have HR12 := Lib.hid (fun W h1 h2 hk => orcompare_any a1 n1 c1 l1 a2 n2 c2 l2 ak f ck kx W h1 h2 hk hx hfc hcm)
  have ht := cmpR_tri l1 l2 l3 kx
  have hr1 := cmpR_range l1 l2 kx
  have hr2 := cmpR_range l2 l3 kx
  have hr3 := cmpR_range l1 l3 kx
  rw [cmpR_neg l1 l2 kx] at H21
  rw [cmpR_refl] at H11
  generalize cmpR l1 l2 kx = x at H12 H21 HR12 ht hr1
  generalize cmpR l2 l3 kx = y at H23 ht hr2
  generalize cmpR l1 l3 kx = z at H13 ht hr3
  have HT := Lib.hid (fun hx hy => tri_use ht hx hy)
  have hxr : -1 ≤ x ∧ x ≤ 1 := by omega
  have HFEW := Lib.hid (fun (ao : Option Addr) (W : World) (h : Tab W ao [⟨a1, n1, c1, l1⟩, ⟨a2, n2, c2, l2⟩, ⟨a3, n3, c3, l3⟩]) => few_any15 ao 3 3 _ W h rfl (Nat.le_refl _) (by decide))
  have hfew := fewR_le [⟨a1, n1, c1, l1⟩, ⟨a2, n2, c2, l2⟩, ⟨a3, n3, c3, l3⟩] 0
  generalize fewR 0 [⟨a1, n1, c1, l1⟩, ⟨a2, n2, c2, l2⟩, ⟨a3, n3, c3, l3⟩] = g at HFEW hfew
  have hg3 : g ≤ 3 := hfew
  clear hx hk hp ht hfew hr1 hr2 hr3
  unfold maxLen at hcm
  go_enter Try.func3, Try.ntmps3
  go_wp2_with (first | (at_make; refine Stop.un ?_) | (at_builtin; refine Stop.un ?_))
  refine (shown_any15 _).mono ?_
  rintro e w1 ⟨rfl, b1⟩
  replace h1 := RowOk.mono h1 b1
  replace h2 := RowOk.mono h2 b1
  replace h3 := RowOk.mono h3 b1
  replace hkx := Cs.mono hkx b1 (Nat.le_refl _)
  have zt : At (w1.alloc (.cells #[.slice a1 n1 c1, .slice a2 n2 c2, .slice a3 n3 c3] 23)) (w1.heap.size) #[.slice a1 n1 c1, .slice a2 n2 c2, .slice a3 n3 c3] 23 := by simpa only [World.size_alloc, Nat.add_assoc, Nat.reduceAdd] using At.new w1 #[.slice a1 n1 c1, .slice a2 n2 c2, .slice a3 n3 c3] 23
  have BB : Below w1.heap.size w1 (w1.alloc (.cells #[.slice a1 n1 c1, .slice a2 n2 c2, .slice a3 n3 c3] 23)) := Below.alloc (Below.refl w1.heap.size w1) (by (try simp only [World.size_alloc]) <;> omega) (.cells #[.slice a1 n1 c1, .slice a2 n2 c2, .slice a3 n3 c3] 23)
  replace h1 := RowOk.mono h1 BB
  replace h2 := RowOk.mono h2 BB
  replace h3 := RowOk.mono h3 BB
  replace hkx := Cs.mono hkx BB (Nat.le_refl _)
  replace b1 := Below.next b1 BB
  clear BB
  have ht := tab3 (r1 := ⟨a1, n1, c1, l1⟩) (r2 := ⟨a2, n2, c2, l2⟩) (r3 := ⟨a3, n3, c3, l3⟩) zt h1 h2 h3
  go_wp2_with (first | (at_make; refine Stop.un ?_) | (at_builtin; refine Stop.un ?_))
  refine (HFEW.out _ _ ht).mono ?_
  rintro e w2 ⟨rfl, bt⟩
  clear ht zt
  replace h1 := RowOk.mono h1 bt
  replace h2 := RowOk.mono h2 bt
  replace h3 := RowOk.mono h3 bt
  replace hkx := Cs.mono hkx bt (Nat.le_refl _)
  replace b1 := Below.next b1 bt
  clear bt HFEW
  by_cases hg : g < 3
  ·
    have hg2 : (g : Int) < 3 := by omega
    go_wp2_with (first | (at_make; refine Stop.un ?_) | (at_builtin; refine Stop.un ?_))
    go_ret
    exact ⟨rfl, b1⟩
  ·
    have hg2 : ¬ (g : Int) < 3 := by omega
    go_wp2_with (first | (at_make; refine Stop.un ?_) | (at_builtin; refine Stop.un ?_))
    refine (HSOME.out _).mono ?_
    rintro e w3 ⟨rfl, rfl⟩
    clear HSOME
    go_wp2_with (first | (at_make; refine Stop.un ?_) | (at_builtin; refine Stop.un ?_))
    refine (H12.out _ h1 h2 hkx).mono ?_
    rintro e v0 ⟨rfl, bt⟩
    replace h1 := RowOk.mono h1 bt
    replace h2 := RowOk.mono h2 bt
    replace h3 := RowOk.mono h3 bt
    replace hkx := Cs.mono hkx bt (Nat.le_refl _)
    replace b1 := Below.next b1 bt
    clear bt H12
    go_wp2_with (first | (at_make; refine Stop.un ?_) | (at_builtin; refine Stop.un ?_))
    refine (H23.out _ h2 h3 hkx).mono ?_
    rintro e v1 ⟨rfl, bt⟩
    replace h1 := RowOk.mono h1 bt
    replace h2 := RowOk.mono h2 bt
    replace h3 := RowOk.mono h3 bt
    replace hkx := Cs.mono hkx bt (Nat.le_refl _)
    replace b1 := Below.next b1 bt
    clear bt H23
    go_wp2_with (first | (at_make; refine Stop.un ?_) | (at_builtin; refine Stop.un ?_))
    refine (H13.out _ h1 h3 hkx).mono ?_
    rintro e v2 ⟨rfl, bt⟩
    replace h1 := RowOk.mono h1 bt
    replace h2 := RowOk.mono h2 bt
    replace h3 := RowOk.mono h3 bt
    replace hkx := Cs.mono hkx bt (Nat.le_refl _)
    replace b1 := Below.next b1 bt
    clear bt H13
    have q1 : (x == x) = true := by simp
    have q2 : (-x == -x) = true := by simp
    go_wp2_with (first | (at_make; refine Stop.un ?_) | (at_builtin; refine Stop.un ?_))
    refine (HR12.out _ h1 h2 hkx).mono ?_
    rintro e v3 ⟨rfl, bt⟩
    replace h1 := RowOk.mono h1 bt
    replace h2 := RowOk.mono h2 bt
    replace h3 := RowOk.mono h3 bt
    replace hkx := Cs.mono hkx bt (Nat.le_refl _)
    replace b1 := Below.next b1 bt
    clear bt HR12
    go_wp2_with (first | (at_make; refine Stop.un ?_) | (at_builtin; refine Stop.un ?_))
    refine (H21.out _ h2 h1 hkx).mono ?_
    rintro e v4 ⟨rfl, bt⟩
    replace h1 := RowOk.mono h1 bt
    replace h2 := RowOk.mono h2 bt
    replace h3 := RowOk.mono h3 bt
    replace hkx := Cs.mono hkx bt (Nat.le_refl _)
    replace b1 := Below.next b1 bt
    clear bt H21
    go_wp2_with (first | (at_make; refine Stop.un ?_) | (at_builtin; refine Stop.un ?_))
    refine (H11.out _ h1 h1 hkx).mono ?_
    rintro e v5 ⟨rfl, bt⟩
    replace h1 := RowOk.mono h1 bt
    replace h2 := RowOk.mono h2 bt
    replace h3 := RowOk.mono h3 bt
    replace hkx := Cs.mono hkx bt (Nat.le_refl _)
    replace b1 := Below.next b1 bt
    clear bt H11
    by_cases hx1 : 0 < x
    ·
      have hd : decide (0 < x) = true := decide_eq_true hx1
      go_wp2_with (first | (at_make; refine Stop.un ?_) | (at_builtin; refine Stop.un ?_))
      go_ret
      exact ⟨rfl, b1⟩
    ·
      have hd : decide (0 < x) = false := decide_eq_false hx1
      by_cases hy1 : 0 < y
      ·
        have hd2 : decide (0 < y) = true := decide_eq_true hy1
        go_wp2_with (first | (at_make; refine Stop.un ?_) | (at_builtin; refine Stop.un ?_))
        go_ret
        exact ⟨rfl, b1⟩
      ·
        have hd2 : decide (0 < y) = false := decide_eq_false hy1
        obtain ⟨hz, he⟩ := HT.out (by omega) (by omega)
        have hd3 : decide (z ≤ 0) = true := decide_eq_true hz
        have HE := Lib.hid he
        cases hx0 : (x == 0) with
        | true =>
          rw [hx0] at he
          simp only [Bool.true_and] at he
          go_wp2_with (first | (at_make; refine Stop.un ?_) | (at_builtin; refine Stop.un ?_))
          go_ret
          exact ⟨by first | rfl | simpa using he, b1⟩
        | false =>
          rw [hx0] at he
          simp only [Bool.false_and] at he
          go_wp2_with (first | (at_make; refine Stop.un ?_) | (at_builtin; refine Stop.un ?_))
          go_ret
          exact ⟨by first | rfl | simpa using he, b1⟩
end Go.Proofs.Ytoggjieagnlneaa
