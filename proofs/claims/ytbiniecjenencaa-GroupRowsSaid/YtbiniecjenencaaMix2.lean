/- A drawn statement in which two operations that make memory may come up at once. -/
import Derived.Test.YtbiniecjenencaaMix
set_option linter.unusedVariables false
set_option linter.unusedSimpArgs false
set_option maxRecDepth 10000
namespace Go.Proofs.Ytbiniecjenencaa
open Go.RowKit
section
variable {P : Program} {R : World → World → Prop}
theorem mix_two {l : List Oper} {Q : Act → World → Prop} {n : Nat} {listed : Array Bool} {w : World} {a : Act} (i j : Nat) {oi oj : Oper} (hi : l[i]? = some oi) (hj : l[j]? = some oj) (hc : Region.ready .any l.toArray listed = [i, j])
    (hwi : Region.wanted oi (yielded l.toArray a.tmps) = true) (hwj : Region.wanted oj (yielded l.toArray a.tmps) = true)
    (h1 : wpList P l.toArray (MixPost P l.toArray R Q n (listed.setIfInBounds i true) w) [oi] a w) (h2 : wpList P l.toArray (MixPost P l.toArray R Q n (listed.setIfInBounds j true) w) [oj] a w) :
    wpAnyM P .any l.toArray R Q (n + 1) listed w a := by
  replace hi : l.toArray[i]? = some oi := by simpa using hi
  replace hj : l.toArray[j]? = some oj := by simpa using hj
  have key : ∀ (x : Nat) (o : Oper), l.toArray[x]? = some o → Region.wanted o (yielded l.toArray a.tmps) = true → wpList P l.toArray (MixPost P l.toArray R Q n (listed.setIfInBounds x true) w) [o] a w →
      o.wp P a w (fun a' w' => (lastOp .any l.toArray x = true ∨ R w w') ∧ wpAnyM P .any l.toArray R Q n (listed.setIfInBounds x true) w' a') Never := by
    intro x o ho hw h1
    unfold wpList at h1
    rw [if_pos hw] at h1
    have hl : ¬ LetsOut (MixPost P l.toArray R Q n (listed.setIfInBounds x true) w) := fun ⟨_, _, hh⟩ => hh
    rcases h1 with h1 | h1
    · have h2 : o.wp P a w (fun a' w' => (lastOp .any l.toArray x = true ∨ R w w') ∧ wpAnyM P .any l.toArray R Q n (listed.setIfInBounds x true) w' a') (MixPost P l.toArray R Q n (listed.setIfInBounds x true) w) :=
        Oper.wp_mono (fun a' w' hh => ⟨.inr hh.1, hh.2⟩) h1
      unfold Oper.wp at h2 ⊢
      generalize (execOp a.eval o).run P w = r at *
      cases r with
      | ok m w' =>
        cases m <;> simp only [Oper.upon] at h2 ⊢ <;>
          first
            | exact h2
            | exact Calls.mono h2 (fun e w'' he => by cases e <;> first | exact he | exact he.elim | exact absurd he hl)
      | halt e w' => cases e <;> simp only [Oper.upon] at h2 ⊢ <;> first | exact h2 | exact h2.elim
    · exact absurd h1.2 hl
  refine ⟨fun h0 => (by rw [hc] at h0; cases h0), fun x hx => ?_⟩
  rw [hc] at hx
  simp only [List.mem_cons, List.not_mem_nil, or_false] at hx
  rcases hx with rfl | rfl
  · exact ⟨oi, hi, .inr ⟨hwi, key _ _ hi hwi h1⟩⟩
  · exact ⟨oj, hj, .inr ⟨hwj, key _ _ hj hwj h2⟩⟩
end
section
variable {P : Program} {R : World → World → Prop}
/-- Operations that make memory, however many may come up at once. -/
theorem mix_each {l : List Oper} {Q : Act → World → Prop} {n : Nat} {listed : Array Bool} {w : World} {a : Act} (rs : List Nat) (hne : rs ≠ []) (hc : Region.ready .any l.toArray listed = rs)
    (h : ∀ i ∈ rs, ∃ o, l[i]? = some o ∧ Region.wanted o (yielded l.toArray a.tmps) = true ∧ wpList P l.toArray (MixPost P l.toArray R Q n (listed.setIfInBounds i true) w) [o] a w) :
    wpAnyM P .any l.toArray R Q (n + 1) listed w a := by
  refine ⟨fun h0 => (by rw [hc] at h0; exact absurd h0 hne), fun i hi => ?_⟩
  rw [hc] at hi
  obtain ⟨o, ho, hw, h1⟩ := h i hi
  replace ho : l.toArray[i]? = some o := by simpa using ho
  refine ⟨o, ho, .inr ⟨hw, ?_⟩⟩
  unfold wpList at h1
  rw [if_pos hw] at h1
  have hl : ¬ LetsOut (MixPost P l.toArray R Q n (listed.setIfInBounds i true) w) := fun ⟨_, _, hh⟩ => hh
  rcases h1 with h1 | h1
  · have h2 : o.wp P a w (fun a' w' => (lastOp .any l.toArray i = true ∨ R w w') ∧ wpAnyM P .any l.toArray R Q n (listed.setIfInBounds i true) w' a') (MixPost P l.toArray R Q n (listed.setIfInBounds i true) w) :=
      Oper.wp_mono (fun a' w' hh => ⟨.inr hh.1, hh.2⟩) h1
    unfold Oper.wp at h2 ⊢
    generalize (execOp a.eval o).run P w = r at *
    cases r with
    | ok m w' =>
      cases m <;> simp only [Oper.upon] at h2 ⊢ <;>
        first
          | exact h2
          | exact Calls.mono h2 (fun e w'' he => by cases e <;> first | exact he | exact he.elim | exact absurd he hl)
    | halt e w' => cases e <;> simp only [Oper.upon] at h2 ⊢ <;> first | exact h2 | exact h2.elim
  · exact absurd h1.2 hl
/-- A name for what is to be shown of any state. -/
theorem mix_abs {l : List Oper} {Q : Act → World → Prop} {n : Nat} {listed : Array Bool} {w : World} {a : Act}
    (h : ∀ W : Nat → Array Bool → World → Act → Prop, (∀ n ls w a, W n ls w a = wpAnyM P .any l.toArray R Q n ls w a) → W n listed w a) : wpAnyM P .any l.toArray R Q n listed w a := h _ (fun _ _ _ _ => rfl)
end
/-- Below block B nothing has changed but block g. -/
structure RX (B : Nat) (g : Option Nat) (w x : World) : Prop where
  os : x.os = w.os
  tape : x.tape = w.tape
  output : x.output = w.output
  size : w.heap.size ≤ x.heap.size
  block : ∀ k, k < B → some k ≠ g → x.heap[k]? = w.heap[k]?
theorem Keeps.rx (B : Nat) (g : Option Nat) : Keeps (RX B g) :=
  ⟨fun _ => ⟨rfl, rfl, rfl, Nat.le_refl _, fun _ _ _ => rfl⟩, fun _ _ _ h k => ⟨k.os.trans h.os, k.tape.trans h.tape, k.output.trans h.output, Nat.le_trans h.size k.size, fun i hi hn => (k.block i hi hn).trans (h.block i hi hn)⟩⟩
theorem RX.refl {B : Nat} {g : Option Nat} (w : World) : RX B g w w := (Keeps.rx B g).refl w
theorem RX.trans {B : Nat} {g : Option Nat} {a b c : World} (h : RX B g a b) (k : RX B g b c) : RX B g a c := (Keeps.rx B g).trans _ _ _ h k
theorem RX.cell {B : Nat} {g : Option Nat} {w x : World} {a : Addr} {v : Value} (h : RX B g w x) (hb : a.block < B) (hn : some a.block ≠ g) (hc : w.cell? a = some v) : x.cell? a = some v := by
  rw [World.cell?_of_block (h.block _ hb hn)]; exact hc
theorem RX.cs {B : Nat} {g : Option Nat} {w x : World} {ao : Option Addr} {xs : List Value} (h : RX B g w x) (hs : Cs w ao xs) (hb : ∀ a, ao = some a → a.block < B ∧ some a.block ≠ g) : Cs x ao xs := by
  intro j u hj
  obtain ⟨b, o, e, hc⟩ := hs j u hj
  exact ⟨b, o, e, h.cell (hb _ e).1 (hb _ e).2 hc⟩
theorem RX.ext {B : Nat} {g : Option Nat} {w x : World} (h : Below w.heap.size w x) (hB : B ≤ w.heap.size) : RX B g w x :=
  ⟨h.os, h.tape, h.output, h.size, fun k hk _ => h.block k (Nat.lt_of_lt_of_le hk hB)⟩
theorem RX.of_below {B B' : Nat} {g : Option Nat} {w x : World} (h : Below B' w x) (hB : B ≤ B') : RX B g w x :=
  ⟨h.os, h.tape, h.output, h.size, fun k hk _ => h.block k (Nat.lt_of_lt_of_le hk hB)⟩
theorem RX.grown {B : Nat} {g : Option Nat} {w x : World} {row : Option Nat} (h : w.grownBy x row) (hB : B ≤ w.heap.size) (hr : ∀ k, row = some k → B ≤ k ∨ some k = g) : RX B g w x :=
  ⟨h.os, h.tape, h.output, h.size, fun k hk hn => h.block k (Nat.lt_of_lt_of_le hk hB) (fun e => by
    rcases hr k e.symm with h1 | h1
    · omega
    · exact hn h1)⟩
theorem RX.set {B : Nat} {g : Option Nat} (w : World) (a : Addr) (v : Value) (h : B ≤ a.block ∨ some a.block = g) : RX B g w (w.setCell a v) :=
  ⟨rfl, rfl, rfl, by simp [World.setCell], fun k hk hn => Below.heap_setCell _ _ _ _ (fun e => by
    subst e
    rcases h with h | h
    · omega
    · exact hn h)⟩
theorem RX.below {B : Nat} {w x : World} (h : RX B none w x) : Below B w x := ⟨h.os, h.tape, h.output, h.size, fun k hk => h.block k hk (by simp)⟩
theorem RX.below_of {B B' : Nat} {g : Nat} {w x : World} (h : RX B (some g) w x) (hB : B' ≤ B) (hg : B' ≤ g) : Below B' w x := ⟨h.os, h.tape, h.output, h.size, fun k hk => h.block k (by omega) (by simp; omega)⟩
theorem RX.rx {B B' : Nat} {g : Option Nat} {w x : World} (h : RX B g w x) (hB : B' ≤ B) : RX B' g w x := ⟨h.os, h.tape, h.output, h.size, fun k hk hn => h.block k (by omega) hn⟩
theorem mix_startX {P : Program} {id : Nat} {Q : Exit → Act → World → Prop} {a : Act} {w : World} {l : List Oper} (B : Nat) (g : Option Nat) (n : Nat) (hn : l.length = n) (hm : P.follows .mixedOrders = true)
    (h : ∀ x, Below w.heap.size w x → wpAnyM P .any l.toArray (RX B g) (fun a x => Q .normal a x) n (Array.replicate n false) x a) : (Code.region id l.toArray true).wp P Q a w :=
  mix_start (RX B g) (Keeps.rx B g) n hn hm (h w.drew (show Ext w w.drew from (Below.refl _ _).drew))
end Go.Proofs.Ytbiniecjenencaa
