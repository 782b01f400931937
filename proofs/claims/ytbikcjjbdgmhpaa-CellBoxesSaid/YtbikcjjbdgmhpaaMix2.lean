/- A drawn statement in which two operations that make memory may come up at once. -/
import Derived.Test.YtbikcjjbdgmhpaaMix
set_option linter.unusedVariables false
namespace Go.Proofs.Ytbikcjjbdgmhpaa
open Go.RowKit
section
variable {P : Program} {R : World → World → Prop}
theorem mix_two {l : List Oper} {Q : Act → World → Prop} {n : Nat} {listed : Array Bool} {w : World} {a : Act} (i j : Nat) {oi oj : Oper} (hi : l[i]? = some oi) (hj : l[j]? = some oj) (hc : Region.ready .any l.toArray listed = [i, j])
    (hwi : Region.wanted oi (yielded l.toArray a.tmps) = true) (hwj : Region.wanted oj (yielded l.toArray a.tmps) = true)
    (h1 : wpList P l.toArray (MixPost P l.toArray R Q n (listed.setIfInBounds i true) w) [oi] a w) (h2 : wpList P l.toArray (MixPost P l.toArray R Q n (listed.setIfInBounds j true) w) [oj] a w) :
    wpAnyM P .any l.toArray R Q (n + 1) listed w a := by
  replace hi : l.toArray[i]? = some oi := by simpa using hi
  replace hj : l.toArray[j]? = some oj := by simpa using hj
  have key : ∀ (x : Nat) (o : Oper), l.toArray[x]? = some o → Region.wanted o (yielded l.toArray a.tmps) = true → wpList P l.toArray (MixPost P l.toArray R Q n (listed.setIfInBounds x true) w) [o] a w →
      o.wp P a w (fun a' w' => R w w' ∧ wpAnyM P .any l.toArray R Q n (listed.setIfInBounds x true) w' a') Never := by
    intro x o ho hw h1
    unfold wpList at h1
    rw [if_pos hw] at h1
    have hl : ¬ LetsOut (MixPost P l.toArray R Q n (listed.setIfInBounds x true) w) := fun ⟨_, _, hh⟩ => hh
    rcases h1 with h1 | h1
    · have h2 : o.wp P a w (fun a' w' => R w w' ∧ wpAnyM P .any l.toArray R Q n (listed.setIfInBounds x true) w' a') (MixPost P l.toArray R Q n (listed.setIfInBounds x true) w) :=
        Oper.wp_mono (fun a' w' hh => hh) h1
      unfold Oper.wp at h2 ⊢
      generalize (execOp a.eval o).run P w = r at *
      cases r with
      | ok m w' =>
        cases m <;> simp only [Oper.upon] at h2 ⊢ <;>
          first
            | exact h2
            | exact Calls.mono h2 (fun e w'' he => by cases e <;> first | exact he | exact he.elim | exact absurd he hl)
      | halt e w' => cases e <;> simp only [Oper.upon] at h2 ⊢ <;> first | exact h2 | exact h2.elim
    · exact absurd h1.2 hl
  refine ⟨fun h0 => (by rw [hc] at h0; cases h0), fun x hx => ?_⟩
  rw [hc] at hx
  simp only [List.mem_cons, List.not_mem_nil, or_false] at hx
  rcases hx with rfl | rfl
  · exact ⟨oi, hi, .inr ⟨hwi, key _ _ hi hwi h1⟩⟩
  · exact ⟨oj, hj, .inr ⟨hwj, key _ _ hj hwj h2⟩⟩
end
end Go.Proofs.Ytbikcjjbdgmhpaa
