/- Does a list's row come ahead of another one's? -/
import Derived.Test.YtfhlbiddhgkcpaaLosT
set_option linter.unusedVariables false
set_option linter.unusedSimpArgs false
namespace Go.Proofs.Ytfhlbiddhgkcpaa
open Go.RowKit
theorem Tre.ask {t : Tr} {H : List Rw} {ks : List Ky} {S : List Nat} {q : Nat} {A : Nat → Prop} {w : World} (T : Tre t H ks S q A w) (q' : Nat) : Tre t H ks S q' A (w.setCell ⟨t.g, 3, none⟩ (.int .i64 (q' : Int))) := by
  have o : Oth (fun k => k = t.g) w (w.setCell ⟨t.g, 3, none⟩ (.int .i64 (q' : Int))) := (Oth.refl _ w).set _ _ (.inl rfl)
  refine ⟨T.z.set 3 _, o.at T.zs (fun e => T.ne.1 e.symm), o.owns T.hh (fun k hk e => ?_), fun r hr => ⟨o.row (T.rows r hr).1 (fun a ha e => ((T.rows r hr).2 a ha).2.1 (.inl e)), fun a ha => ⟨Nat.lt_of_lt_of_le ((T.rows r hr).2 a ha).1 o.size, ((T.rows r hr).2 a ha).2⟩⟩, o.cs T.kcs (fun hne a ha e => (T.kad (kcells_ne hne) a ha).1 (.inl e)), T.kl, T.kle, T.kmx, T.kad, T.ne, T.notA, fun k hk => Nat.lt_of_lt_of_le (T.inA k hk) o.size⟩
  cases e2 : t.ah with
  | none => rw [e2] at hk; simp [Value.ownBlock] at hk
  | some a =>
    rw [e2] at hk
    simp only [Value.ownBlock, Option.map_some, Option.some.injEq] at hk
    exact (T.ne.2 a e2).1 (hk.trans e)
theorem bt_rw {ks : List Ky} {H : List Rw} {a b : Nat} : btB ks (hds H) a b = match hd (rw H a), hd (rw H b) with
  | none, _ => false
  | some _, none => true
  | some x, some y => decide (cmpR x y ks < 0) || (decide (cmpR x y ks = 0) && decide (a < b)) := by
  unfold btB
  rw [gt_hds, gt_hds]
  cases hd (rw H a) <;> cases hd (rw H b) <;> rfl
set_option maxRecDepth 100000 in
set_option maxHeartbeats 4000000 in
theorem beats_any (t : Tr) (H : List Rw) (ks : List Ky) (S : List Nat) (q : Nat) (A : Nat → Prop) (a b : Nat) (w : World) (T : Tre t H ks S q A w) (ha : a ≤ 100000) (hb : b ≤ 100000) (hH : H.length ≤ 1000) (hq : q ≤ 1000000) :
    Calls Try.prog 25 #[.pointer (some ⟨t.g, 0, none⟩), .int .i64 (a : Int), .int .i64 (b : Int)] w (fun e w' => ∃ q', e = .returned (.bool (btB ks (hds H) a b)) ∧ Tre t H ks S q' A w' ∧ q' = q + both (hds H) a b ∧ Oth t.mut w w') := by
  have HA := Lib.hid (fun W (T : Tre t H ks S q A W) => head_any t H ks S q A a W T ha hH)
  have HB := Lib.hid (fun W (T : Tre t H ks S q A W) => head_any t H ks S q A b W T hb hH)
  have HRA := Lib.hid (fun W (q : Nat) (T : Tre t H ks S q A W) => T.rok a)
  have HRB := Lib.hid (fun W (q : Nat) (T : Tre t H ks S q A W) => T.rok b)
  have hbt := @bt_rw ks H a b
  have hbo : both (hds H) a b = if (hd (rw H a)).isSome = true ∧ (hd (rw H b)).isSome = true then 1 else 0 := by unfold both; rw [gt_hds, gt_hds]
  generalize btB ks (hds H) a b = B at hbt ⊢
  generalize both (hds H) a b = C at hbo ⊢
  generalize rw H a = x at hbt hbo HA HRA
  generalize rw H b = y at hbt hbo HB HRB
  obtain ⟨xa, xn, xc, xl⟩ := x
  obtain ⟨ya, yn, yc, yl⟩ := y
  simp only at HA HB
  cases xa with
  | none =>
    obtain rfl : B = false := hbt
    obtain rfl : C = 0 := by rw [hbo]; rfl
    clear hbo HRA HRB
    go_enter Try.func25, Try.ntmps25
    go_wp2_with (first | (at_make; refine Stop.un ?_) | (at_builtin; refine Stop.un ?_))
    refine (HA.out _ T).mono ?_
    rintro e w1 ⟨rfl, b1⟩
    have T1 := T.below b1
    go_wp2_with (first | (at_make; refine Stop.un ?_) | (at_builtin; refine Stop.un ?_))
    refine (HB.out _ T1).mono ?_
    rintro e w2 ⟨rfl, b2⟩
    have T2 := T1.below b2
    have o2 := (Oth.of_below t.mut b1).below b2
    clear T T1 b1 b2 HA HB
    go_wp2_with (first | (at_make; refine Stop.un ?_) | (at_builtin; refine Stop.un ?_) | (with_reducible refine Stop.eql 26 ?_) | (with_reducible refine Stop.neq 26 ?_))
    refine Stop.mk (wpList_as _ rfl (exec_nilR _ _ _ rfl rfl _) ?_)
    go_wp2_with (first | (at_make; refine Stop.un ?_) | (at_builtin; refine Stop.un ?_) | (with_reducible refine Stop.eql 26 ?_) | (with_reducible refine Stop.neq 26 ?_))
    refine Stop.mk (wpList_as _ rfl (exec_nnilR _ _ _ rfl rfl _) ?_)
    go_wp2_with (first | (at_make; refine Stop.un ?_) | (at_builtin; refine Stop.un ?_))
    go_ret
    exact ⟨q, by first | rfl | simp, T2, rfl, o2⟩
  | some xad =>
    cases ya with
    | none =>
      obtain rfl : B = true := hbt
      obtain rfl : C = 0 := by rw [hbo]; rfl
      clear hbo HRA HRB
      go_enter Try.func25, Try.ntmps25
      go_wp2_with (first | (at_make; refine Stop.un ?_) | (at_builtin; refine Stop.un ?_))
      refine (HA.out _ T).mono ?_
      rintro e w1 ⟨rfl, b1⟩
      have T1 := T.below b1
      go_wp2_with (first | (at_make; refine Stop.un ?_) | (at_builtin; refine Stop.un ?_))
      refine (HB.out _ T1).mono ?_
      rintro e w2 ⟨rfl, b2⟩
      have T2 := T1.below b2
      have o2 := (Oth.of_below t.mut b1).below b2
      clear T T1 b1 b2 HA HB
      go_wp2_with (first | (at_make; refine Stop.un ?_) | (at_builtin; refine Stop.un ?_) | (with_reducible refine Stop.eql 26 ?_) | (with_reducible refine Stop.neq 26 ?_))
      refine Stop.mk (wpList_as _ rfl (exec_nilR _ _ _ rfl rfl _) ?_)
      go_wp2_with (first | (at_make; refine Stop.un ?_) | (at_builtin; refine Stop.un ?_) | (with_reducible refine Stop.eql 26 ?_) | (with_reducible refine Stop.neq 26 ?_))
      refine Stop.mk (wpList_as _ rfl (exec_nilR _ _ _ rfl rfl _) ?_)
      go_wp2_with (first | (at_make; refine Stop.un ?_) | (at_builtin; refine Stop.un ?_) | (with_reducible refine Stop.eql 26 ?_) | (with_reducible refine Stop.neq 26 ?_))
      refine Stop.mk (wpList_as _ rfl (exec_nnilR _ _ _ rfl rfl _) ?_)
      go_wp2_with (first | (at_make; refine Stop.un ?_) | (at_builtin; refine Stop.un ?_))
      go_ret
      exact ⟨q, by first | rfl | simp, T2, rfl, o2⟩
    | some yad =>
      obtain rfl : C = 1 := by rw [hbo]; rfl
      have hB : B = (decide (cmpR xl yl ks < 0) || (decide (cmpR xl yl ks = 0) && decide (a < b))) := hbt
      have HC := Lib.hid (fun W o1 o2 k => ocompare_any (some xad) xn xc xl (some yad) yn yc yl t.ak t.p t.ck ks W o1 o2 k T.kl T.kle T.kmx)
      generalize cmpR xl yl ks = c at hB HC
      have HBB := Lib.hid hB
      clear hbt hbo hB
      go_enter Try.func25, Try.ntmps25
      go_wp2_with (first | (at_make; refine Stop.un ?_) | (at_builtin; refine Stop.un ?_))
      refine (HA.out _ T).mono ?_
      rintro e w1 ⟨rfl, b1⟩
      have T1 := T.below b1
      go_wp2_with (first | (at_make; refine Stop.un ?_) | (at_builtin; refine Stop.un ?_))
      refine (HB.out _ T1).mono ?_
      rintro e w2 ⟨rfl, b2⟩
      have T2 := T1.below b2
      have o2 := (Oth.of_below t.mut b1).below b2
      have f3 := T2.z.free 3
      have x3 := T2.z.cell 3 rfl
      have xl2 := T2.z.lt
      have T3 := T2.ask (q + 1)
      have o3 := o2.set ⟨t.g, 3, none⟩ (.int .i64 ((q + 1 : Nat) : Int)) (.inl (.inl rfl))
      have x1 := T3.z.cell 1 rfl
      have xl3 := T3.z.lt
      have ra := HRA.out _ _ T3
      have rb := HRB.out _ _ T3
      have kk := T3.kcs
      rw [show ((q + 1 : Nat) : Int) = (q : Int) + 1 by omega] at T3 o3 x1 ra rb kk xl3
      clear T T1 b1 b2 HA HB HRA HRB T2 o2
      go_wp2_with (first | (at_make; refine Stop.un ?_) | (at_builtin; refine Stop.un ?_) | (with_reducible refine Stop.eql 26 ?_) | (with_reducible refine Stop.neq 26 ?_))
      refine Stop.mk (wpList_as _ rfl (exec_nilR _ _ _ rfl rfl _) ?_)
      go_wp2_with (first | (at_make; refine Stop.un ?_) | (at_builtin; refine Stop.un ?_) | (with_reducible refine Stop.eql 26 ?_) | (with_reducible refine Stop.neq 26 ?_))
      refine Stop.mk (wpList_as _ rfl (exec_nilR _ _ _ rfl rfl _) ?_)
      go_wp2_with (first | (at_make; refine Stop.un ?_) | (at_builtin; refine Stop.un ?_))
      refine (HC.out _ ra rb kk).mono ?_
      rintro e w4 ⟨rfl, b4⟩
      have T4 := T3.below b4
      have o4 := o3.below b4
      clear T3 o3 x1 ra rb kk HC f3 x3 xl2 xl3 b4
      have hq1 : (q + 1 : Nat) = q + 1 := rfl
      by_cases h1 : c < 0
      · have hd1 : decide (c < 0) = true := decide_eq_true h1
        obtain rfl : B = true := by rw [HBB.out, hd1]; rfl
        go_wp2_with (first | (at_make; refine Stop.un ?_) | (at_builtin; refine Stop.un ?_))
        go_ret
        exact ⟨q + 1, by first | rfl | simp, T4, rfl, o4⟩
      · have hd1 : decide (c < 0) = false := decide_eq_false h1
        by_cases h2 : c = 0
        · subst h2
          by_cases h3 : a < b
          · obtain rfl : B = true := by rw [HBB.out, decide_eq_true h3]; rfl
            have hd2 : decide ((a : Int) < (b : Int)) = true := decide_eq_true (by omega)
            have hd3 : decide (a < b) = true := decide_eq_true h3
            go_wp2_with (first | (at_make; refine Stop.un ?_) | (at_builtin; refine Stop.un ?_))
            go_ret
            exact ⟨q + 1, by first | rfl | simp, T4, rfl, o4⟩
          · obtain rfl : B = false := by rw [HBB.out, decide_eq_false h3]; rfl
            have hd2 : decide ((a : Int) < (b : Int)) = false := decide_eq_false (by omega)
            have hd3 : decide (a < b) = false := decide_eq_false h3
            go_wp2_with (first | (at_make; refine Stop.un ?_) | (at_builtin; refine Stop.un ?_))
            go_ret
            exact ⟨q + 1, by first | rfl | simp, T4, rfl, o4⟩
        · obtain rfl : B = false := by rw [HBB.out, hd1, decide_eq_false h2]; rfl
          have hd2 : (c == 0) = false := by simpa using h2
          have hd4 : decide (c = 0) = false := decide_eq_false h2
          go_wp2_with (first | (at_make; refine Stop.un ?_) | (at_builtin; refine Stop.un ?_))
          go_ret
          exact ⟨q + 1, by first | rfl | simp, T4, rfl, o4⟩
end Go.Proofs.Ytfhlbiddhgkcpaa
