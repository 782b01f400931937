/- A row of runs that came in. -/
import Derived.Test.YtkgcjafediimnaaRunC
import Derived.Test.YtkgcjafediimnaaShut
import Derived.Lib.SmallJoins
import Derived.Deep.Slices
set_option linter.unusedVariables false
set_option linter.unusedSimpArgs false
namespace Go.Proofs.Ytkgcjafediimnaa
open Go.ChangeShapes Go.WideShapes Go.ChangeAt Go.RowKit Go.Joins Go.Deep
theorem Try.cellsRn : Try.prog.cellsOf 34 = 2 := by kernel_rfl
def Rn.ok (a : Rn) : Prop := -9223372036854775808 ≤ a.n ∧ a.n ≤ 9223372036854775807 ∧ -9223372036854775808 ≤ a.k ∧ a.k ≤ 9223372036854775807
theorem Try.bytesRn : Try.prog.bytesOf 34 = 16 := by kernel_rfl
/-- A row of values that came in. -/
theorem open_rrow {H : Type} {enc : TypeId × Value → H} {W : World} {a : Option Addr} {len cap : Nat} {d : DataW H} {p : List MemPlace} (h : DataW.Trod enc Try.prog W 0 (fun _ => true) true 30 (.slice a len cap) d p)
    {ts : List TypeId} {ds : List (DataW H)} (hsz : (DataW.weightsEach Try.prog ts ds).all (· ≤ reachBytes) = true) {j : Nat} (hj : ts[j]? = some 30) (hd : ds[j]? = some d) :
    ∃ l : List Rn, Cs W a (rcells l) ∧ l.length = len ∧ len ≤ cap ∧ cap ≤ maxLen ∧ cap * 16 ≤ 140737488351232 ∧ ∀ v ∈ l, v.ok := by
  obtain ⟨fuel, hf⟩ := h
  rcases open_slice Try.underlying30 hf with ⟨hcs, _⟩ | ⟨x, l, c, m, n, D, Pl, hcs, _, hl, hm, hmm, hx, hi⟩
  · simp [Value.cells] at hcs
    obtain ⟨rfl, rfl, rfl⟩ := hcs
    exact ⟨[], Cs.nil _ _, rfl, Nat.le_refl _, Nat.zero_le _, by simp, fun _ h => by cases h⟩
  · simp [Value.cells] at hcs
    obtain ⟨rfl, rfl, rfl⟩ := hcs
    simp only [if_true] at hmm
    subst hmm
    rw [Try.cellsRn] at hi
    simp only [Prod.mk.injEq] at hx
    obtain ⟨rfl, rfl⟩ := hx
    have hr := sized_slice hsz hj hd Try.underlying30
    rw [Try.bytesRn] at hr
    simp only [List.length_map, List.length_range, reachBytes] at hr
    have one : ∀ i, i < m → ∃ v : Rn, v.ok ∧ W.cell? (x.add (i * 2)) = some (.int .i64 v.n) ∧ W.cell? ((x.add (i * 2)).add 1) = some (.int .i64 v.k) := by
      intro i him
      obtain ⟨cs', hc, ht⟩ := hi i him
      obtain ⟨_, hcl, hat⟩ := World.cells?_some hc
      obtain ⟨y0, y1, n', hx, _, h0, h1⟩ := trod_struct2 Try.underlying34 ht
      match cs', hcl with
      | [c0, c1], _ =>
        have k0 : Try.prog.cellsOf 3 = 1 := by kernel_rfl
        simp only [k0, List.drop_zero, List.take_succ_cons, List.take_zero] at h0
        simp only [k0, List.drop_succ_cons, List.drop_zero, List.take_succ_cons, List.take_zero] at h1
        obtain ⟨k, e0, _, w0⟩ := DataW.trod_int Try.underlying3 h0
        obtain ⟨q, e1, _, w1⟩ := DataW.trod_int Try.underlying3 h1
        simp only [List.cons.injEq, and_true] at e0 e1
        subst e0 e1
        obtain ⟨a1, a2⟩ := bounds_i64 w0
        obtain ⟨a3, a4⟩ := bounds_i64 w1
        have t0 := hat 0 (by omega)
        have t1 := hat 1 (by omega)
        exact ⟨⟨k, q⟩, ⟨a1, a2, a3, a4⟩, by simpa [Addr.add] using t0, t1⟩
    have hsp : 0 < len → x.spot = none := fun h0 => by
      obtain ⟨v, _, h, _⟩ := one 0 (by omega)
      simpa [Addr.add] using World.cell?_spot h
    obtain ⟨xb, xo, spot⟩ := x
    have pick : ∃ f : Nat → Rn, ∀ i, i < m → (f i).ok ∧ W.cell? ((⟨xb, xo, spot⟩ : Addr).add (i * 2)) = some (.int .i64 (f i).n) ∧ W.cell? (((⟨xb, xo, spot⟩ : Addr).add (i * 2)).add 1) = some (.int .i64 (f i).k) :=
      ⟨fun i => if h : i < m then (one i h).choose else ⟨0, 0⟩, fun i h => by simp only [h, dif_pos]; exact (one i h).choose_spec⟩
    obtain ⟨f, hfi⟩ := pick
    refine ⟨(List.range len).map f, ?_, by simp, hl, hm, by omega, ?_⟩
    · intro q u hu
      have hq : q < len * 2 := by
        have := (List.getElem?_eq_some_iff.1 hu).1
        rw [rcells_length] at this; simpa using this
      obtain rfl := hsp (by omega)
      refine ⟨xb, xo, rfl, ?_⟩
      obtain ⟨i, r, hr3, rfl⟩ : ∃ i r, r < 2 ∧ q = i * 2 + r := ⟨q / 2, q % 2, by omega, by omega⟩
      have hi3 : i < len := by omega
      obtain ⟨_, c0, c1⟩ := hfi i (by omega)
      have hg := rcells_get ((List.range len).map f) i (by simpa using hi3)
      simp only [List.getElem_map, List.getElem_range] at hg
      rw [Addr.add_lit] at c0 c1
      rw [Addr.add_lit] at c1
      match r, hr3 with
      | 0, _ => rw [Nat.add_zero, hg.1] at hu; rw [Nat.add_zero, c0]; exact hu
      | 1, _ => rw [hg.2] at hu; rw [← Nat.add_assoc, c1]; exact hu
    · intro v hv
      obtain ⟨i, hi2, rfl⟩ := List.mem_map.1 hv
      exact (hfi i (by have := List.mem_range.1 hi2; omega)).1
end Go.Proofs.Ytkgcjafediimnaa
