/- Lists of three numbers each that came in. -/
import Derived.Test.YtbiniecjenencaaGSet
set_option linter.unusedVariables false
set_option linter.unusedSimpArgs false
set_option maxRecDepth 10000
namespace Go.Proofs.Ytbiniecjenencaa
open Go.ChangeShapes Go.WideShapes Go.ChangeAt Go.RowKit Go.Joins Go.Deep
structure T3 where
  a : Int
  b : Int
  c : Int
def tcells : List T3 → List Value
  | [] => []
  | x :: l => .int .i32 x.a :: .int .i32 x.b :: .int .i32 x.c :: tcells l
theorem tcells_length : ∀ l : List T3, (tcells l).length = l.length * 3
  | [] => rfl
  | x :: l => by
    simp only [tcells, List.length_cons, tcells_length l]
    omega
theorem tcells_get : ∀ (l : List T3) (i : Nat) (h : i < l.length), (tcells l)[i * 3]? = some (.int .i32 l[i].a) ∧ (tcells l)[i * 3 + 1]? = some (.int .i32 l[i].b) ∧ (tcells l)[i * 3 + 2]? = some (.int .i32 l[i].c)
  | x :: l, 0, _ => ⟨rfl, rfl, rfl⟩
  | x :: l, i + 1, h => by
    have := tcells_get l i (by simpa using h)
    rw [show (i + 1) * 3 = i * 3 + 3 by omega]
    simpa [tcells] using this
theorem Cs.tat {w : World} {b o : Nat} {l : List T3} (h : Cs w (some ⟨b, o, none⟩) (tcells l)) {i : Nat} (hi : i < l.length) :
    w.cell? ⟨b, o + i * 3, none⟩ = some (.int .i32 l[i].a) ∧ w.cell? ⟨b, o + i * 3 + 1, none⟩ = some (.int .i32 l[i].b) ∧ w.cell? ⟨b, o + i * 3 + 2, none⟩ = some (.int .i32 l[i].c) := by
  obtain ⟨h0, h1, h2⟩ := tcells_get l i hi
  exact ⟨h.at h0, by have := h.at h1; rwa [← Nat.add_assoc] at this, by have := h.at h2; rwa [← Nat.add_assoc] at this⟩
def T3.ok (x : T3) : Prop := (-2147483648 ≤ x.a ∧ x.a ≤ 2147483647) ∧ (-2147483648 ≤ x.b ∧ x.b ≤ 2147483647) ∧ (-2147483648 ≤ x.c ∧ x.c ≤ 2147483647)
theorem Try.cellsT3 : Try.prog.cellsOf 54 = 3 := by kernel_rfl
theorem Try.cellsI32 : Try.prog.cellsOf 21 = 1 := by kernel_rfl
theorem open_tF {H : Type} {enc : TypeId × Value → H} {W : World} {t : TypeId} (ht : Try.prog.underlying t = some (.slice 54)) {fuel : Nat} {a : Option Addr} {len cap : Nat} {x : DataW H × List MemPlace} (hf : DataW.trod enc Try.prog W 0 (fun _ => true) true fuel t [.slice a len cap] = some x) :
    ∃ l : List T3, Cs W a (tcells l) ∧ l.length = len ∧ len ≤ cap ∧ cap ≤ maxLen ∧ ∀ x ∈ l, x.ok := by
  rcases open_slice ht hf with ⟨hcs, _⟩ | ⟨x, l, c, m, n, D, Pl, hcs, _, hl, hm, hmm, hx, hi⟩
  · simp at hcs
    obtain ⟨rfl, rfl, rfl⟩ := hcs
    exact ⟨[], Cs.nil _ _, rfl, Nat.le_refl _, Nat.zero_le _, fun _ h => by cases h⟩
  · simp at hcs
    obtain ⟨rfl, rfl, rfl⟩ := hcs
    simp only [if_true] at hmm
    subst hmm
    rw [Try.cellsT3] at hi
    have one : ∀ i, i < m → ∃ v : T3, v.ok ∧ W.cell? (x.add (i * 3)) = some (.int .i32 v.a) ∧ W.cell? ((x.add (i * 3)).add 1) = some (.int .i32 v.b) ∧ W.cell? ((x.add (i * 3)).add 2) = some (.int .i32 v.c) := by
      intro i him
      obtain ⟨cs', hc, htt⟩ := hi i him
      obtain ⟨_, hcl, hat⟩ := World.cells?_some hc
      obtain ⟨xs, n', hx, _, _, hxl, hp⟩ := DataW.trod_array Try.underlying54 htt
      rw [Try.cellsI32] at hp
      match cs', hcl with
      | [c0, c1, c2], _ =>
        have g : ∀ i (h : i < 3), ∃ y, xs[i]? = some y := fun i h => ⟨_, List.getElem?_eq_getElem (by omega)⟩
        obtain ⟨y0, z0⟩ := g 0 (by omega)
        obtain ⟨y1, z1⟩ := g 1 (by omega)
        obtain ⟨y2, z2⟩ := g 2 (by omega)
        have h0 := (hp 0 (by omega)).trans z0
        have h1 := (hp 1 (by omega)).trans z1
        have h2 := (hp 2 (by omega)).trans z2
        simp only [Nat.zero_mul, List.drop_zero, List.take_succ_cons, List.take_zero] at h0
        simp only [Nat.one_mul, List.drop_succ_cons, List.drop_zero, List.take_succ_cons, List.take_zero] at h1
        simp only [Nat.mul_one, List.drop_succ_cons, List.drop_zero, List.take_succ_cons, List.take_zero] at h2
        obtain ⟨q0, e0, _, w0⟩ := DataW.trod_int Try.underlying21 h0
        obtain ⟨q1, e1, _, w1⟩ := DataW.trod_int Try.underlying21 h1
        obtain ⟨q2, e2, _, w2⟩ := DataW.trod_int Try.underlying21 h2
        simp only [List.cons.injEq, and_true] at e0 e1 e2
        subst e0 e1 e2
        have t0 := hat 0 (by omega)
        have t1 := hat 1 (by omega)
        have t2 := hat 2 (by omega)
        exact ⟨⟨q0, q1, q2⟩, ⟨bounds_i32 w0, bounds_i32 w1, bounds_i32 w2⟩, by simpa [Addr.add] using t0, t1, t2⟩
    have hsp : 0 < len → x.spot = none := fun h0 => by
      obtain ⟨v, _, h, _⟩ := one 0 (by omega)
      simpa [Addr.add] using World.cell?_spot h
    obtain ⟨xb, xo, spot⟩ := x
    have pick : ∃ f : Nat → T3, ∀ i, i < m → (f i).ok ∧ W.cell? ((⟨xb, xo, spot⟩ : Addr).add (i * 3)) = some (.int .i32 (f i).a) ∧ W.cell? (((⟨xb, xo, spot⟩ : Addr).add (i * 3)).add 1) = some (.int .i32 (f i).b) ∧ W.cell? (((⟨xb, xo, spot⟩ : Addr).add (i * 3)).add 2) = some (.int .i32 (f i).c) :=
      ⟨fun i => if h : i < m then (one i h).choose else T3.mk 0 0 0, fun i h => by simp only [h, dif_pos]; exact (one i h).choose_spec⟩
    obtain ⟨f, hfi⟩ := pick
    refine ⟨(List.range len).map f, ?_, by simp, hl, hm, fun y hy => by
      obtain ⟨i, hi2, rfl⟩ := List.mem_map.1 hy
      exact (hfi i (by have := List.mem_range.1 hi2; omega)).1⟩
    intro q u hu
    have hq : q < len * 3 := by
      have := (List.getElem?_eq_some_iff.1 hu).1
      rw [tcells_length] at this; simpa using this
    obtain rfl := hsp (by omega)
    refine ⟨xb, xo, rfl, ?_⟩
    obtain ⟨i, r, hr3, rfl⟩ : ∃ i r, r < 3 ∧ q = i * 3 + r := ⟨q / 3, q % 3, by omega, by omega⟩
    have hi3 : i < len := by omega
    obtain ⟨_, c0, c1, c2⟩ := hfi i (by omega)
    have hg := tcells_get ((List.range len).map f) i (by simpa using hi3)
    simp only [List.getElem_map, List.getElem_range] at hg
    rw [Addr.add_lit] at c0 c1 c2
    rw [Addr.add_lit] at c1 c2
    match r, hr3 with
    | 0, _ => rw [Nat.add_zero, hg.1] at hu; rw [Nat.add_zero, c0]; exact hu
    | 1, _ => rw [hg.2.1] at hu; rw [← Nat.add_assoc, c1]; exact hu
    | 2, _ => rw [hg.2.2] at hu; rw [← Nat.add_assoc, c2]; exact hu
end Go.Proofs.Ytbiniecjenencaa
