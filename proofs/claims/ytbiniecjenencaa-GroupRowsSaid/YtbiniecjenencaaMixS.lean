/- A statement that draws its order and in which several stores come behind all that is read: walked once. -/
import Derived.Test.YtbiniecjenencaaMix
set_option linter.unusedVariables false
set_option linter.unusedSimpArgs false
set_option maxRecDepth 10000
namespace Go.Proofs.Ytbiniecjenencaa
open Go.RowKit
section
variable {P : Program} {ops : Array Oper} {md : Region.Mode} {late : Nat → Bool} {R : World → World → Prop}
/-- Whatever order is picked from here on; the late ones may change whatever they like. -/
def wpAnyL (P : Program) (md : Region.Mode) (ops : Array Oper) (late : Nat → Bool) (R : World → World → Prop) (Q : Act → World → Prop) : Nat → Array Bool → World → Act → Prop
  | 0, listed, w, a => Region.ready md ops listed = [] ∧ Q a w
  | fuel + 1, listed, w, a => (Region.ready md ops listed = [] → Q a w) ∧
    ∀ i ∈ Region.ready md ops listed, ∃ o, ops[i]? = some o ∧
      ((∃ v, YieldsS P ops R w o v a ∧ wpAnyL P md ops late R Q fuel (listed.setIfInBounds i true) w (a.put o.dst v)) ∨
       (∃ v, YieldsS P ops AnyW w o v a ∧ wpAnyL P md ops late R Q fuel (listed.setIfInBounds i true) w (a.put o.dst v)) ∨
       (Region.wanted o (yielded ops a.tmps) = true ∧ o.wp P a w (fun a' w' => (late i = true ∨ R w w') ∧ wpAnyL P md ops late R Q fuel (listed.setIfInBounds i true) w' a') Never))
theorem wpAny_of_L (hR : Keeps R) {Q : Act → World → Prop} {Q' : Exit → Act → World → Prop} (hQ : ∀ a w, Q a w → Q' .normal a w) : ∀ (fuel : Nat) (listed : Array Bool) (w : World) (a : Act),
    wpAnyL P md ops late R Q fuel listed w a → wpAny P md ops Q' fuel listed a w
  | 0, _, _, _, h => ⟨h.1, hQ _ _ h.2⟩
  | fuel + 1, listed, w, a, h => by
    refine ⟨fun h0 => hQ _ _ (h.1 h0), fun i hi => ?_⟩
    obtain ⟨o, ho, hc⟩ := h.2 i hi
    unfold wpOp
    simp only [ho]
    rcases hc with ⟨v, hy, hr⟩ | ⟨v, hy, hr⟩ | ⟨hw, hb⟩
    · rcases hy with ⟨hw, hv⟩ | ⟨hw, rfl⟩
      · rw [if_pos hw]
        refine .inl ?_
        unfold Oper.wp
        rcases hv w (hR.refl w) with e | ⟨e, rfl⟩ <;> rw [e] <;> exact wpAny_of_L hR hQ fuel _ w _ hr
      · rw [if_neg (by rw [hw]; exact Bool.false_ne_true)]
        exact wpAny_of_L hR hQ fuel _ w _ hr
    · rcases hy with ⟨hw, hv⟩ | ⟨hw, rfl⟩
      · rw [if_pos hw]
        refine .inl ?_
        unfold Oper.wp
        rcases hv w trivial with e | ⟨e, rfl⟩ <;> rw [e] <;> exact wpAny_of_L hR hQ fuel _ w _ hr
      · rw [if_neg (by rw [hw]; exact Bool.false_ne_true)]
        exact wpAny_of_L hR hQ fuel _ w _ hr
    · rw [if_pos hw]
      refine .inl (wp_never (Oper.wp_mono (fun a' w' hh => ?_) hb))
      exact wpAny_of_L hR hQ fuel _ w' _ hh.2
/-- What yields one value may be taken first: S is the relation that it yields it by; either every late one comes behind it, or it yields it in every world. -/
theorem wpAnyL_first (S : World → World → Prop) (hS : Keeps S) (hSR : ∀ w x, R w x → S w x) {Q : Act → World → Prop} {i : Nat} {oi : Oper} {v : Value} (hi : ops[i]? = some oi) (hsel : ∀ (j : Nat) (o : Oper) cs b, ops[j]? = some o → o.op ≠ .select cs b)
    (hlate : (∀ w x, S w x) ∨ ∀ j oj, ops[j]? = some oj → j ≠ i → late j = true → ∃ e ∈ oj.after, Region.binds md e = true ∧ e.on = i)
    (hput : ∀ fuel listed w a, YieldsS P ops S w oi v a → i ∈ Region.ready md ops listed → wpAnyL P md ops late R Q fuel (listed.setIfInBounds i true) w (a.put oi.dst v) → ∃ o, ops[i]? = some o ∧
      ((∃ v, YieldsS P ops R w o v a ∧ wpAnyL P md ops late R Q fuel (listed.setIfInBounds i true) w (a.put o.dst v)) ∨
       (∃ v, YieldsS P ops AnyW w o v a ∧ wpAnyL P md ops late R Q fuel (listed.setIfInBounds i true) w (a.put o.dst v)) ∨
       (Region.wanted o (yielded ops a.tmps) = true ∧ o.wp P a w (fun a' w' => (late i = true ∨ R w w') ∧ wpAnyL P md ops late R Q fuel (listed.setIfInBounds i true) w' a') Never))) :
    ∀ (fuel : Nat) (listed : Array Bool) (w : World) (a : Act),
      (∀ j oj, ops[j]? = some oj → j ≠ i → listed.getD j true = false → (∀ e ∈ oj.after, Region.binds md e = true → e.on ≠ i) → oi.apart ops oj = true) →
      i ∈ Region.ready md ops listed → YieldsS P ops S w oi v a →
      wpAnyL P md ops late R Q fuel (listed.setIfInBounds i true) w (a.put oi.dst v) → wpAnyL P md ops late R Q (fuel + 1) listed w a := by
  intro fuel
  induction fuel with
  | zero =>
    intro listed w a _ hr hy H
    refine ⟨fun h => (by rw [h] at hr; cases hr), fun j hj => ?_⟩
    by_cases hji : j = i
    · subst hji; exact hput _ _ _ _ hy hr H
    · have := ready_mono hj hji
      rw [H.1] at this
      cases this
  | succ fuel ih =>
    intro listed w a hfree hr hy H
    refine ⟨fun h => (by rw [h] at hr; cases hr), fun j hj => ?_⟩
    by_cases hji : j = i
    · subst hji; exact hput _ _ _ _ hy hr H
    · obtain ⟨oj', hoj', h1⟩ := H.2 j (ready_mono hj hji)
      obtain ⟨hjun, oj, hoj, hall⟩ := mem_ready.1 hj
      obtain rfl : oj = oj' := by rw [hoj] at hoj'; exact Option.some.inj hoj'
      have hnot : ∀ e ∈ oj.after, Region.binds md e = true → e.on ≠ i := fun e he hb heq => by
        have h1 := hall e he hb
        have h0 := (mem_ready.1 hr).1
        rw [heq] at h1
        rcases Nat.lt_or_ge i listed.size with h' | h'
        · simp [h'] at h0 h1; rw [h0] at h1; cases h1
        · simp [Array.getElem?_eq_none h'] at h1
      have hap := hfree j oj hoj hji hjun hnot
      obtain ⟨p1, p2, p3⟩ := Oper.apart_spec hap
      have hfree' : ∀ k ok, ops[k]? = some ok → k ≠ i → (listed.setIfInBounds j true).getD k true = false →
          (∀ e ∈ ok.after, Region.binds md e = true → e.on ≠ i) → oi.apart ops ok = true := fun k ok hk hki hun hno => by
        refine hfree k ok hk hki ?_ hno
        by_cases hjk : j = k
        · subst hjk; exact hjun
        · rw [getD_set_ne true hjk] at hun; exact hun
      have step : ∀ u, wpAnyL P md ops late R Q fuel ((listed.setIfInBounds i true).setIfInBounds j true) w ((a.put oi.dst v).put oj.dst u) → wpAnyL P md ops late R Q (fuel + 1) (listed.setIfInBounds j true) w (a.put oj.dst u) := fun u hn => by
        refine ih (listed.setIfInBounds j true) w _ hfree' (ready_mono hr (Ne.symm hji)) (hy.of_same (execOp_put oi (fun cs b => hsel i oi cs b hi) a oj.dst u p3) (wanted_put oi a oj.dst u p3)) ?_
        rw [Array.setIfInBounds_comm _ _ hji, ← Act.put_comm a v u p2]
        exact hn
      refine ⟨oj, hoj, ?_⟩
      rcases h1 with ⟨u, hu, hn⟩ | ⟨u, hu, hn⟩ | ⟨hw, hb⟩
      · exact .inl ⟨u, hu.of_same (execOp_put oj (fun cs b => hsel j oj cs b hoj) a oi.dst v p1).symm (wanted_put oj a oi.dst v p1).symm, step u hn⟩
      · exact .inr (.inl ⟨u, hu.of_same (execOp_put oj (fun cs b => hsel j oj cs b hoj) a oi.dst v p1).symm (wanted_put oj a oi.dst v p1).symm, step u hn⟩)
      · rw [wanted_put oj a oi.dst v p1] at hw
        refine .inr (.inr ⟨hw, ?_⟩)
        refine Oper.wp_mono (fun a' w' hh => ?_) (wp_put hoj hap (fun cs b => hsel i oi cs b hi) (fun cs b => hsel j oj cs b hoj) hb)
        obtain ⟨⟨q1, q2⟩, q3, q4⟩ := hh
        have q5 : S w w' := by
          rcases hlate with hl | hl
          · exact hl w w'
          · rcases q3 with q3 | q3
            · obtain ⟨e, he, hb, ho⟩ := hl j oj hoj hji q3
              exact absurd ho (hnot e he hb)
            · exact hSR _ _ q3
        refine ⟨q3, ih (listed.setIfInBounds j true) w' a' hfree' (ready_mono hr (Ne.symm hji)) ((hy.of_same q1 q2).mono hS q5) ?_⟩
        rw [Array.setIfInBounds_comm _ _ hji]
        exact q4
def behind (ops : Array Oper) (late : Nat → Bool) (i : Nat) : Bool :=
  (List.range ops.size).all fun j => j == i || !late j || (match ops[j]? with | none => true | some o => o.after.toList.any fun e => Region.binds .any e && e.on == i)
theorem behind_spec {ops : Array Oper} {i : Nat} (h : behind ops late i = true) : ∀ j oj, ops[j]? = some oj → j ≠ i → late j = true → ∃ e ∈ oj.after, Region.binds .any e = true ∧ e.on = i := by
  intro j oj hj hji hl
  have hlt : j < ops.size := (Array.getElem?_eq_some_iff.1 hj).1
  have h1 := List.all_eq_true.1 h j (List.mem_range.2 hlt)
  rw [hj] at h1
  simp only [Bool.or_eq_true, beq_iff_eq, List.any_eq_true, Bool.and_eq_true, Bool.not_eq_true'] at h1
  rcases h1 with (h1 | h1) | ⟨e, he, hb, ho⟩
  · exact absurd h1 hji
  · rw [hl] at h1; cases h1
  · exact ⟨e, by simpa using he, hb, ho⟩
theorem yields_of {S : World → World → Prop} (hS : Keeps S) {w : World} {a : Act} {o : Oper} (hp : plainOp o.op = true) (hw : Region.wanted o (yielded ops a.tmps) = true) {Q : Act → Prop}
    (h : ∀ (ι : Type) (U : ι → World) (_ : Nonempty ι), (∀ k, S w (U k)) → o.quiet P a (fun y => ∃ k, y = U k) Q) : ∃ v, YieldsS P ops S w o v a ∧ Q (a.put o.dst v) := by
  obtain ⟨v, h1, h2⟩ := h {x // S w x} (fun x => x.1) ⟨⟨w, hS.refl w⟩⟩ (fun x => x.2)
  refine ⟨v, .inl ⟨hw, fun x hx => ?_⟩, h2⟩
  have h3 := h1 x ⟨⟨x, hx⟩, rfl⟩
  unfold Oper.quietAt at h3
  cases hrun : (execOp a.eval o).run P x with
  | ok m w' =>
    rw [hrun] at h3
    cases m <;> simp only [Oper.quietUpon] at h3
    case value u => obtain ⟨e1, e2⟩ := h3; rw [e1, e2]; exact .inl rfl
    case skip => obtain ⟨e1, e2⟩ := h3; rw [e1]; exact .inr ⟨rfl, e2⟩
    case enter f args => exact absurd hrun (plain_noEnter hp)
  | halt e w' => rw [hrun] at h3; simp only [Oper.quietUpon] at h3
theorem cell_same {U w : World} (h : U = w) {a : Addr} {v : Value} (hc : w.cell? a = some v) : U.cell? a = some v := by rw [h]; exact hc
/-- The world stays as it is till the late ones come. -/
def SameW : World → World → Prop := fun w x => x = w
theorem Keeps.same : Keeps SameW := ⟨fun _ => rfl, fun _ _ _ h k => k.trans h⟩
theorem mixL_start {id : Nat} {Q : Exit → Act → World → Prop} {a : Act} {w : World} {l : List Oper} (late : Nat → Bool) (n : Nat) (hn : l.length = n) (hm : P.follows .mixedOrders = true)
    (h : ∀ x, Below w.heap.size w x → x.heap.size = w.heap.size → wpAnyL P .any l.toArray late SameW (fun a x => Q .normal a x) n (Array.replicate n false) x a) : (Code.region id l.toArray true).wp P Q a w := by
  subst hn
  refine wp_region_any hm ?_
  have := wpAny_of_L (P := P) (md := .any) (late := late) (Q' := Q) Keeps.same (fun _ _ h => h) _ _ w.drew a (h w.drew (Below.refl _ _).drew rfl)
  simpa using this
theorem mixL_end {Q : Act → World → Prop} {listed : Array Bool} {w : World} {a : Act} (hr : Region.ready .any ops listed = []) (h : Q a w) : wpAnyL P .any ops late R Q 0 listed w a := ⟨hr, h⟩
/-- An operation that reads: every late one comes behind it. -/
theorem mixL_read {l : List Oper} {Q : Act → World → Prop} {n : Nat} {listed : Array Bool} {w : World} {a : Act} (i : Nat) {o : Oper} (hi : l[i]? = some o) (hc : mixOk l.toArray listed i = true) (hb : behind l.toArray late i = true) (hw : Region.wanted o (yielded l.toArray a.tmps) = true)
    (h : ∀ (ι : Type) (U : ι → World) (_ : Nonempty ι), (∀ k, U k = w) → o.quiet P a (fun y => ∃ k, y = U k) (fun a' => wpAnyL P .any l.toArray late SameW Q n (listed.setIfInBounds i true) w a')) :
    wpAnyL P .any l.toArray late SameW Q (n + 1) listed w a := by
  replace hi : l.toArray[i]? = some o := by simpa using hi
  simp only [mixOk, Bool.and_eq_true, hi, Option.any_some] at hc
  obtain ⟨⟨⟨hs, hr⟩, hf⟩, hp⟩ := hc
  obtain ⟨v, h1, h2⟩ := yields_of (S := SameW) (w := w) Keeps.same hp hw (fun ι U hne hU => h ι U hne hU)
  exact wpAnyL_first SameW Keeps.same (fun _ _ h => h) hi (Region.noSelect_spec hs) (.inr (behind_spec hb)) (fun fuel ls W A hy hr H => ⟨o, hi, .inl ⟨v, hy, H⟩⟩) n listed w a (Region.free_spec hi hf) (by simpa using hr) h1 h2
/-- An operation that yields its value in every world. -/
theorem mixL_pure {l : List Oper} {Q : Act → World → Prop} {n : Nat} {listed : Array Bool} {w : World} {a : Act} (i : Nat) {o : Oper} (hi : l[i]? = some o) (hc : mixOk l.toArray listed i = true) (hw : Region.wanted o (yielded l.toArray a.tmps) = true)
    (h : ∀ (ι : Type) (U : ι → World) (_ : Nonempty ι), o.quiet P a (fun y => ∃ k, y = U k) (fun a' => wpAnyL P .any l.toArray late SameW Q n (listed.setIfInBounds i true) w a')) :
    wpAnyL P .any l.toArray late SameW Q (n + 1) listed w a := by
  replace hi : l.toArray[i]? = some o := by simpa using hi
  simp only [mixOk, Bool.and_eq_true, hi, Option.any_some] at hc
  obtain ⟨⟨⟨hs, hr⟩, hf⟩, hp⟩ := hc
  obtain ⟨v, h1, h2⟩ := yields_of (S := AnyW) (w := w) Keeps.any hp hw (fun ι U hne _ => h ι U hne)
  exact wpAnyL_first AnyW Keeps.any (fun _ _ _ => trivial) hi (Region.noSelect_spec hs) (.inl (fun _ _ => trivial)) (fun fuel ls W A hy hr H => ⟨o, hi, .inr (.inl ⟨v, hy, H⟩)⟩) n listed w a (Region.free_spec hi hf) (by simpa using hr) h1 h2
def MixL (P : Program) (ops : Array Oper) (late : Nat → Bool) (Q : Act → World → Prop) (n : Nat) (listed : Array Bool) : Exit → Act → World → Prop
  | .normal, a, w => wpAnyL P .any ops late SameW Q n listed w a
  | _, _, _ => False
theorem MixL.mk {Q : Act → World → Prop} {n : Nat} {listed : Array Bool} {w : World} {a : Act} (h2 : wpAnyL P .any ops late SameW Q n listed w a) : MixL P ops late Q n listed .normal a w := h2
/-- A late operation, where no other may come up. -/
theorem mixL_late {l : List Oper} {Q : Act → World → Prop} {n : Nat} {listed : Array Bool} {w : World} {a : Act} (i : Nat) {o : Oper} (hi : l[i]? = some o) (hc : Region.ready .any l.toArray listed = [i]) (hlate : late i = true) (hw : Region.wanted o (yielded l.toArray a.tmps) = true)
    (h : wpList P l.toArray (MixL P l.toArray late Q n (listed.setIfInBounds i true)) [o] a w) :
    wpAnyL P .any l.toArray late SameW Q (n + 1) listed w a := by
  replace hi : l.toArray[i]? = some o := by simpa using hi
  refine ⟨fun h0 => (by rw [hc] at h0; cases h0), fun j hj => ?_⟩
  rw [hc] at hj
  obtain rfl : j = i := by simpa using hj
  refine ⟨o, hi, .inr (.inr ⟨hw, ?_⟩)⟩
  have h1 := h
  unfold wpList at h1
  rw [if_pos hw] at h1
  have hl : ¬ LetsOut (MixL P l.toArray late Q n (listed.setIfInBounds j true)) := fun ⟨_, _, hh⟩ => hh
  rcases h1 with h1 | h1
  · have h2 : o.wp P a w (fun a' w' => (late j = true ∨ SameW w w') ∧ wpAnyL P .any l.toArray late SameW Q n (listed.setIfInBounds j true) w' a') (MixL P l.toArray late Q n (listed.setIfInBounds j true)) :=
      Oper.wp_mono (fun a' w' hh => ⟨.inl hlate, hh⟩) h1
    unfold Oper.wp at h2 ⊢
    generalize (execOp a.eval o).run P w = r at *
    cases r with
    | ok m w' =>
      cases m <;> simp only [Oper.upon] at h2 ⊢ <;>
        first
          | exact h2
          | exact Calls.mono h2 (fun e w'' he => by cases e <;> first | exact he | exact he.elim | exact absurd he hl)
    | halt e w' => cases e <;> simp only [Oper.upon] at h2 ⊢ <;> first | exact h2 | exact h2.elim
  · exact absurd h1.2 hl
end
end Go.Proofs.Ytbiniecjenencaa
