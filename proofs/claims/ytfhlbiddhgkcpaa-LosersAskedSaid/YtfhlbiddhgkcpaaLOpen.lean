/- Lists of rows that came in. -/
import Derived.Test.YtfhlbiddhgkcpaaOOpen
import Derived.Test.YtfhlbiddhgkcpaaLosC
set_option linter.unusedVariables false
set_option linter.unusedSimpArgs false
namespace Go.Proofs.Ytfhlbiddhgkcpaa
open Go.ChangeShapes Go.WideShapes Go.ChangeAt Go.RowKit Go.Joins Go.Deep
theorem Try.cellsLw : Try.prog.cellsOf 22 = 1 := by kernel_rfl
def Lw.ok (r : Lw) : Prop := ∀ v ∈ r.rs, v.ok
theorem open_lF {H : Type} {enc : TypeId × Value → H} {W : World} {t : TypeId} (ht : Try.prog.underlying t = some (.slice 22)) {fuel : Nat} {a : Option Addr} {len cap : Nat} {x : DataW H × List MemPlace} (hf : DataW.trod enc Try.prog W 0 (fun _ => true) true fuel t [.slice a len cap] = some x) :
    ∃ l : List Lw, Lists W a l ∧ l.length = len ∧ len ≤ cap ∧ cap ≤ maxLen ∧ ∀ v ∈ l, v.ok := by
  rcases open_slice ht hf with ⟨hcs, _⟩ | ⟨x, l, c, m, n, D, Pl, hcs, _, hl, hm, hmm, hx, hi⟩
  · simp at hcs
    obtain ⟨rfl, rfl, rfl⟩ := hcs
    exact ⟨[], ⟨Cs.nil _ _, fun _ h => by cases h⟩, rfl, Nat.le_refl _, Nat.zero_le _, fun _ h => by cases h⟩
  · simp at hcs
    obtain ⟨rfl, rfl, rfl⟩ := hcs
    simp only [if_true] at hmm
    subst hmm
    rw [Try.cellsLw] at hi
    have one : ∀ i, i < m → ∃ v : Lw, v.ok ∧ LwOk W v ∧ W.cell? (x.add i) = some (.slice v.a v.n v.cap) := by
      intro i him
      obtain ⟨cs', hc, htt⟩ := hi i him
      obtain ⟨_, hcl, hat⟩ := World.cells?_some hc
      rw [Nat.mul_one] at hat
      match cs', hcl with
      | [c0], _ =>
        have hsh : ∃ a' l' c', c0 = .slice a' l' c' := by
          rcases open_slice Try.underlying22 htt with ⟨h1, _⟩ | ⟨a', l', c', _, _, _, _, h1, _⟩
          · exact ⟨_, _, _, by simpa using h1⟩
          · exact ⟨_, _, _, by simpa using h1⟩
        obtain ⟨a', l', c', rfl⟩ := hsh
        obtain ⟨vs, g1, g2, g3, g4, g5⟩ := open_rF Try.underlying22 htt
        have t0 := hat 0 (by omega)
        exact ⟨⟨a', l', c', vs⟩, g5, ⟨g1, g2, g3, g4⟩, by simpa [Addr.add] using t0⟩
    have hsp : 0 < len → x.spot = none := fun h0 => by
      obtain ⟨v, _, _, h⟩ := one 0 (by omega)
      simpa [Addr.add] using World.cell?_spot h
    obtain ⟨xb, xo, spot⟩ := x
    have pick : ∃ f : Nat → Lw, ∀ i, i < m → (f i).ok ∧ LwOk W (f i) ∧ W.cell? ((⟨xb, xo, spot⟩ : Addr).add i) = some (.slice (f i).a (f i).n (f i).cap) :=
      ⟨fun i => if h : i < m then (one i h).choose else ⟨none, 0, 0, []⟩, fun i h => by simp only [h, dif_pos]; exact (one i h).choose_spec⟩
    obtain ⟨f, hfi⟩ := pick
    refine ⟨(List.range len).map f, ⟨?_, ?_⟩, by simp, hl, hm, ?_⟩
    · intro q u hu
      have hq : q < len := by
        have := (List.getElem?_eq_some_iff.1 hu).1
        rw [lwcells_length] at this; simpa using this
      obtain rfl := hsp (by omega)
      refine ⟨xb, xo, rfl, ?_⟩
      obtain ⟨_, _, c0⟩ := hfi q (by omega)
      rw [Addr.add_lit] at c0
      rw [c0, ← hu]
      simp [lwcells, hq, Lw.sl]
    · intro v hv
      obtain ⟨i, hi2, rfl⟩ := List.mem_map.1 hv
      exact (hfi i (by have := List.mem_range.1 hi2; omega)).2.1
    · intro v hv
      obtain ⟨i, hi2, rfl⟩ := List.mem_map.1 hv
      exact (hfi i (by have := List.mem_range.1 hi2; omega)).1
end Go.Proofs.Ytfhlbiddhgkcpaa
