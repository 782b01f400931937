/- All matches are played. -/
import Derived.Test.YtfhlbiddhgkcpaaLosB
import Derived.Test.YtfhlbiddhgkcpaaAppK
set_option linter.unusedVariables false
set_option linter.unusedSimpArgs false
namespace Go.Proofs.Ytfhlbiddhgkcpaa
open Go.RowKit
theorem Tre.slot {t : Tr} {H : List Rw} {ks : List Ky} {S : List Nat} {q : Nat} {A : Nat → Prop} {w : World} (T : Tre t H ks S q A w) (j b : Nat) : Tre t H ks (S.set j b) q A (w.setCell ⟨t.gs, j, none⟩ (.int .i64 (b : Int))) := by
  have o : Oth (fun k => k = t.gs) w (w.setCell ⟨t.gs, j, none⟩ (.int .i64 (b : Int))) := (Oth.refl _ w).set _ _ (.inl rfl)
  refine ⟨?_, ?_, o.owns T.hh (fun k hk e => ?_), fun r hr => ⟨o.row (T.rows r hr).1 (fun a ha e => ((T.rows r hr).2 a ha).2.1 (.inr (.inl e))), fun a ha => ⟨Nat.lt_of_lt_of_le ((T.rows r hr).2 a ha).1 o.size, ((T.rows r hr).2 a ha).2⟩⟩, o.cs T.kcs (fun hne a ha e => (T.kad (kcells_ne hne) a ha).1 (.inr (.inl e))), T.kl, T.kle, T.kmx, T.kad, T.ne, T.notA, fun k hk => Nat.lt_of_lt_of_le (T.inA k hk) o.size⟩
  · have := o.at T.z T.ne.1
    rwa [List.length_set]
  · have := T.zs.set j (.int .i64 (b : Int))
    rwa [show (S.map (fun k : Nat => Value.int .i64 k)).toArray.setIfInBounds j (.int .i64 (b : Int)) = ((S.set j b).map (fun k : Nat => Value.int .i64 k)).toArray by simp [List.map_set]] at this
  · cases e2 : t.ah with
    | none => rw [e2] at hk; simp [Value.ownBlock] at hk
    | some a =>
      rw [e2] at hk
      simp only [Value.ownBlock, Option.map_some, Option.some.injEq] at hk
      exact (T.ne.2 a e2).2 (hk.trans e)
theorem bt_asym {ks : List Ky} {H : List (Option (List V))} {a b : Nat} (h : btB ks H a b = true) : btB ks H b a = false := by
  unfold btB at *
  cases h1 : gt H a with
  | none => rw [h1] at h; simp at h
  | some x =>
    cases h2 : gt H b with
    | none => rfl
    | some y =>
      rw [h1, h2] at h
      have := cmpR_neg x y ks
      simp only [Bool.or_eq_true, Bool.and_eq_true, decide_eq_true_eq] at h
      simp only [Bool.or_eq_false_iff, Bool.and_eq_false_iff, decide_eq_false_iff_not]
      omega
/-- A list's row in memory of its own. -/
theorem lown_any (r : Rw) (w : World) (h : RowOk w r) (hn : r.n ≤ 1000000) :
    Calls Try.prog 21 #[.slice r.a r.n r.cap] w (fun e w' => ∃ r', e = .returned (.slice r'.a r'.n r'.cap) ∧ hd r' = hd r ∧ RowOk w' r' ∧ Below w.heap.size w w' ∧ (∀ a, r'.a = some a → w.heap.size ≤ a.block ∧ a.block < w'.heap.size) ∧ r'.n ≤ r.n ∧ Fz w' r') := by
  obtain ⟨a, n, cap, l⟩ := r
  obtain ⟨hcs, hlen, hle, hmax, hkind⟩ := h
  simp only at hcs hlen hle hmax hn ⊢
  cases a with
  | none =>
    clear hcs hlen hkind
    go_enter Try.func21, Try.ntmps21
    go_wp2_with (first | (at_make; refine Stop.un ?_) | (at_builtin; refine Stop.un ?_) | (with_reducible refine Stop.eql 26 ?_) | (with_reducible refine Stop.neq 26 ?_))
    refine Stop.mk (wpList_as _ rfl (exec_nilR _ _ _ rfl rfl _) ?_)
    go_wp2_with (first | (at_make; refine Stop.un ?_) | (at_builtin; refine Stop.un ?_))
    go_ret
    exact ⟨nilRw, rfl, rfl, nilRw_ok _, Below.refl _ _, (fun a h => by cases h), Nat.zero_le _, (fun a h => by cases h)⟩
  | some ad =>
    have HL := Lib.hid (And.intro hlen hkind)
    clear hlen hkind
    go_enter Try.func21, Try.ntmps21
    go_wp2_with (first | (at_make; refine Stop.un ?_) | (at_builtin; refine Stop.un ?_) | (with_reducible refine Stop.eql 26 ?_) | (with_reducible refine Stop.neq 26 ?_))
    refine Stop.mk (wpList_as _ rfl (exec_nilR _ _ _ rfl rfl _) ?_)
    go_wp2_with (first | (at_make; refine Stop.un ?_) | (at_builtin; refine Stop.un ?_))
    have hO : OwnV w (w.alloc (.cells #[] 38)) (.slice (some ⟨w.heap.size, 0, none⟩) 0 0) 0 [] := Own.block (Below.refl _ _) rfl (by decide)
    refine Stop.mk (app_rsk w _ _ rfl rfl hO rfl rfl HL.out.1 (hcs.alloc _) (by omega) ?_)
    intro g4 c4 w4 hO4 hg4 hk4
    simp only [Nat.zero_add, List.nil_append] at hO4 ⊢
    clear hO
    go_wp2_with (first | (at_make; refine Stop.un ?_) | (at_builtin; refine Stop.un ?_))
    go_ret
    refine ⟨⟨some ⟨g4, 0, none⟩, n, c4, l⟩, by first | rfl | simp, rfl, ⟨Own.cs hO4, HL.out.1, owns_le hO4.1, owns_max hO4.1, HL.out.2⟩, Own.below hO4, fun a ha => ?_, Nat.le_refl _, Fz.own hO4⟩
    have ha2 : some (⟨g4, 0, none⟩ : Addr) = some a := ha
    rw [← Option.some.inj ha2]
    exact ⟨Own.ge hO4 g4 rfl, Own.lt hO4 g4 rfl⟩
theorem div_one2 (j : Nat) : j / 2 ^ 0 = j := by simp
set_option maxRecDepth 100000 in
set_option maxHeartbeats 8000000 in
theorem play_any (t : Tr) (H : List Rw) (ks : List Ky) (A : Nat → Prop) (sz : Nat) (hsz : sz ≤ 1000) (hH : H.length ≤ 1000) : ∀ (h i : Nat) (S : List Nat) (q : Nat) (w : World), Tre t H ks S q A w → S.length = sz → sz ≤ i * 2 ^ h → (i + 1) * 2 ^ h ≤ 2 * sz → 1 ≤ i → q + cn (hds H) sz h i ≤ 1000000 →
    Calls Try.prog 22 #[.pointer (some ⟨t.g, 0, none⟩), .int .i64 (i : Int)] w (fun e w' => ∃ (v : Nat) (S' : List Nat) (q' : Nat), e = .returned (.int .i64 (v : Int)) ∧ Tre t H ks S' q' A w' ∧ S'.length = sz ∧ v < sz ∧ Won ks (hds H) S' sz h i v ∧ (∀ j, (∀ e, e < h → j / 2 ^ e ≠ i) → S'[j]? = S[j]?) ∧ q' + (if (gt (hds H) v).isSome = true then 1 else 0) ≤ q + cn (hds H) sz h i ∧ (gt (hds H) v = none → q' = q) ∧ Oth t.mut w w') := by
  intro h
  induction h with
  | zero =>
    intro i S q w T hS h1 h2 h3 hq
    rw [Nat.pow_zero, Nat.mul_one] at h1 h2
    have z := T.z
    rw [hS] at z
    have x2 := z.cell 2 rfl
    have xl := z.lt
    have HT := Lib.hid T
    have HS := Lib.hid hS
    have hcn : cn (hds H) sz 0 i = if (gt (hds H) (i - sz)).isSome = true then 1 else 0 := rfl
    have HQ := Lib.hid hcn
    clear z T hS hcn hq
    go_enter Try.func22, Try.ntmps22
    go_wp2_with (first | (at_make; refine Stop.un ?_) | (at_builtin; refine Stop.un ?_))
    go_ret
    refine ⟨i - sz, S, q, by rw [show ((i - sz : Nat) : Int) = (i : Int) - (sz : Int) by omega]; rfl, HT.out, HS.out, by omega, ?_, fun _ _ => rfl, by rw [HQ.out]; exact Nat.le_refl _, fun _ => rfl, Oth.refl _ _⟩
    show i - sz + sz = i
    omega
  | succ h IH =>
    intro i S q w T hS h1 h2 h3 hq
    have e1 : 2 * i * 2 ^ h = i * 2 ^ (h + 1) := by rw [Nat.pow_succ, Nat.mul_comm (2 ^ h) 2, ← Nat.mul_assoc, Nat.mul_comm i 2]
    have e2 : (2 * i + 1 + 1) * 2 ^ h = (i + 1) * 2 ^ (h + 1) := by rw [show 2 * i + 1 + 1 = (i + 1) * 2 by omega, Nat.pow_succ, Nat.mul_assoc, Nat.mul_comm 2 (2 ^ h)]
    have e3 : (2 * i + 1) * 2 ^ h ≤ (2 * i + 1 + 1) * 2 ^ h := Nat.mul_le_mul_right _ (by omega)
    have e4 : 2 * i * 2 ^ h ≤ (2 * i + 1) * 2 ^ h := Nat.mul_le_mul_right _ (by omega)
    have hp : 1 ≤ 2 ^ h := Nat.pow_pos (by omega)
    have e5 : 2 * i + 2 ≤ (2 * i + 1 + 1) * 2 ^ h := Nat.le_mul_of_pos_right _ hp
    have hi : i < sz := by omega
    have hcn : cn (hds H) sz (h + 1) i = cn (hds H) sz h (2 * i) + cn (hds H) sz h (2 * i + 1) := rfl
    rw [hcn] at hq
    have HI1 := Lib.hid (IH (2 * i) S q w T hS (by omega) (by omega) (by omega) (by omega))
    have HI2 := Lib.hid (fun S1 q1 w1 (T1 : Tre t H ks S1 q1 A w1) hS1 hq1 => IH (2 * i + 1) S1 q1 w1 T1 hS1 (by omega) (by omega) (by omega) hq1)
    have HBT := Lib.hid (fun S q a b w (T : Tre t H ks S q A w) ha hb hq => beats_any t H ks S q A a b w T ha hb hH hq)
    have z := T.z
    rw [hS] at z
    have x2 := z.cell 2 rfl
    have xl := z.lt
    have HQ := Lib.hid (And.intro hq hcn)
    clear z T hS IH hq hcn e1 e2 e3 e4 e5 hp h1 h2
    go_enter Try.func22, Try.ntmps22
    go_wp2_with (first | (at_make; refine Stop.un ?_) | (at_builtin; refine Stop.un ?_))
    rw [show (2 : Int) * (i : Int) = ((2 * i : Nat) : Int) by omega]
    refine HI1.out.mono ?_
    rintro e w1 ⟨v1, S1, q1, rfl, T1, hS1, hv1, W1, F1, Q1, N1, O1⟩
    have H2 := Lib.hid (HI2.out S1 q1 w1 T1 hS1 (by have := HQ.out.1; split at Q1 <;> omega))
    have HW1 := Lib.hid (And.intro W1 (And.intro F1 (And.intro Q1 N1)))
    have z := T1.z
    rw [hS1] at z
    clear T1 hS1 W1 F1 Q1 N1 HI1 HI2 x2 xl z
    go_wp2_with (first | (at_make; refine Stop.un ?_) | (at_builtin; refine Stop.un ?_))
    rw [show (2 : Int) * (i : Int) + 1 = ((2 * i + 1 : Nat) : Int) by omega]
    refine H2.out.mono ?_
    rintro e w2 ⟨v2, S2, q2, rfl, T2, hS2, hv2, W2, F2, Q2, N2, O2⟩
    have H3 := Lib.hid (HBT.out S2 q2 v2 v1 w2 T2 (by omega) (by omega) (by have := HQ.out.1; have := HW1.out.2.2.1; split at Q2 <;> split at this <;> omega))
    have HW2 := Lib.hid (And.intro W2 (And.intro F2 (And.intro Q2 N2)))
    have o2 := O1.trans O2
    have HS2 := Lib.hid hS2
    clear T2 hS2 W2 F2 Q2 N2 H2 HBT O1 O2
    go_wp2_with (first | (at_make; refine Stop.un ?_) | (at_builtin; refine Stop.un ?_))
    refine H3.out.mono ?_
    rintro e w3 ⟨q3, rfl, T3, hq3, O3⟩
    have o3 := o2.trans O3
    have z := T3.z
    rw [HS2.out] at z
    have x2 := z.cell 2 rfl
    have xl := z.lt
    have f3 := T3.zs.free i
    have hls : i < S2.length := by rw [HS2.out]; exact hi
    obtain ⟨s0, c3⟩ : ∃ s0, w3.cell? ⟨t.gs, i, none⟩ = some s0 := ⟨_, T3.zs.cell i (v := .int .i64 (S2[i] : Int)) (by simp [hls])⟩
    have cl := T3.zs.lt
    have HQ3 := Lib.hid hq3
    have HSF : Hid (∀ l, (S2.set i l).length = sz ∧ (∀ j, (∀ e, e < h + 1 → j / 2 ^ e ≠ i) → (S2.set i l)[j]? = S[j]?) ∧ (S2.set i l)[i]? = some l ∧ Won ks (hds H) (S2.set i l) sz h (2 * i) v1 ∧ Won ks (hds H) (S2.set i l) sz h (2 * i + 1) v2) := Lib.hid (fun l => by
      refine ⟨by rw [List.length_set]; exact HS2.out, fun j hj => ?_, List.getElem?_set_self hls, ?_, ?_⟩
      · have hji : i ≠ j := fun e => hj 0 (by omega) (by rw [div_one2, e])
        rw [List.getElem?_set_ne hji, HW2.out.2.1 j (fun e he hje => hj (e + 1) (by omega) (by rw [div_up, hje]; omega)), HW1.out.2.1 j (fun e he hje => hj (e + 1) (by omega) (by rw [div_up, hje]; omega))]
      · refine won_mono _ _ _ HW1.out.1 (fun e j he hj => ?_) (fun _ _ => rfl)
        have hjl := Nat.div_le_self j (2 ^ e)
        rw [List.getElem?_set_ne (by omega), HW2.out.2.1 j (fun e' he' hj' => ?_)]
        rcases Nat.lt_trichotomy e e' with h5 | h5 | h5
        · have := div_le_div j (e + 1) e' (by omega)
          have := div_up j e
          omega
        · rw [h5] at hj; omega
        · have := div_le_div j (e' + 1) e (by omega)
          have := div_up j e'
          omega
      · refine won_mono _ _ _ HW2.out.1 (fun e j he hj => ?_) (fun _ _ => rfl)
        have hjl := Nat.div_le_self j (2 ^ e)
        rw [List.getElem?_set_ne (by omega)])
    have HNN : Hid ((gt (hds H) v1 = none → gt (hds H) v2 = none → q3 = q) ∧ q3 + (if (gt (hds H) v1).isSome = true ∨ (gt (hds H) v2).isSome = true then 1 else 0) ≤ q + cn (hds H) sz (h + 1) i) := Lib.hid (by
      have h1 := HW1.out.2.2
      have h2 := HW2.out.2.2
      have h3 := HQ3.out
      unfold both at h3
      rw [HQ.out.2]
      obtain ⟨k1, a1⟩ := h1
      obtain ⟨k2, a2⟩ := h2
      refine ⟨fun n1 n2 => ?_, ?_⟩
      · have b1 := a1 n1
        have b2 := a2 n2
        rw [if_neg (by rw [n1]; simp)] at h3
        omega
      · by_cases g1 : (gt (hds H) v1).isSome = true <;> by_cases g2 : (gt (hds H) v2).isSome = true <;> simp only [g1, g2, and_self, true_and, and_true, false_and, and_false, or_self, or_true, true_or, false_or, or_false, if_true, if_false, not_true_eq_false, not_false_eq_true, Bool.false_eq_true] at k1 k2 h3 ⊢ <;> omega)
    clear H3 o2 O3 z hls hq3 HQ3 HW1 HW2 HQ HS2
    cases hB : btB ks (hds H) v2 v1 with
    | false =>
      have HB := Lib.hid hB
      have T4 := T3.slot i v2
      have o4 := o3.set ⟨t.gs, i, none⟩ (.int .i64 (v2 : Int)) (.inl (.inr (.inl rfl)))
      clear T3 o3 hB
      go_wp2_with (first | (at_make; refine Stop.un ?_) | (at_builtin; refine Stop.un ?_))
      go_ret
      obtain ⟨s1, s2, s3, s4, s5⟩ := HSF.out v2
      refine ⟨v1, _, q3, by first | rfl | simp, T4, s1, hv1, ⟨v2, s3, HB.out, .inl ⟨s4, s5⟩⟩, s2, ?_, fun hn => ?_, o4⟩
      · have := HNN.out.2
        by_cases g1 : (gt (hds H) v1).isSome = true
        · rw [if_pos g1]; rw [if_pos (.inl g1)] at this; exact this
        · rw [if_neg g1]; omega
      · exact HNN.out.1 hn (bt_none ks (hds H) _ _ HB.out hn)
    | true =>
      have HB := Lib.hid hB
      have T4 := T3.slot i v1
      have o4 := o3.set ⟨t.gs, i, none⟩ (.int .i64 (v1 : Int)) (.inl (.inr (.inl rfl)))
      clear T3 o3 hB
      go_wp2_with (first | (at_make; refine Stop.un ?_) | (at_builtin; refine Stop.un ?_))
      go_ret
      obtain ⟨s1, s2, s3, s4, s5⟩ := HSF.out v1
      refine ⟨v2, _, q3, by first | rfl | simp, T4, s1, hv2, ⟨v1, s3, bt_asym HB.out, .inr ⟨s4, s5⟩⟩, s2, ?_, fun hn => ?_, o4⟩
      · have := HNN.out.2
        by_cases g1 : (gt (hds H) v2).isSome = true
        · rw [if_pos g1]; rw [if_pos (.inr g1)] at this; exact this
        · rw [if_neg g1]; omega
      · have h9 : gt (hds H) v1 = none := bt_none ks (hds H) _ _ (bt_asym HB.out) hn
        exact HNN.out.1 h9 hn
end Go.Proofs.Ytfhlbiddhgkcpaa
