/- Rows and keys that came in. -/
import Derived.Test.YtbiniecjenencaaRow
import Derived.Deep.Slices
set_option linter.unusedVariables false
set_option linter.unusedSimpArgs false
set_option maxRecDepth 10000
namespace Go.Proofs.Ytbiniecjenencaa
open Go.ChangeShapes Go.WideShapes Go.ChangeAt Go.RowKit Go.Joins Go.Deep
theorem open_vF {H : Type} {enc : TypeId × Value → H} {W : World} {t : TypeId} (ht : Try.prog.underlying t = some (.slice 38)) {fuel : Nat} {a : Option Addr} {len cap : Nat} {x : DataW H × List MemPlace} (hf : DataW.trod enc Try.prog W 0 (fun _ => true) true fuel t [.slice a len cap] = some x) :
    ∃ l : List V, Cs W a (vcells l) ∧ l.length = len ∧ len ≤ cap ∧ cap ≤ maxLen ∧ ∀ v ∈ l, v.ok := by
  rcases open_slice ht hf with ⟨hcs, _⟩ | ⟨x, l, c, m, n, D, Pl, hcs, _, hl, hm, hmm, hx, hi⟩
  · simp at hcs
    obtain ⟨rfl, rfl, rfl⟩ := hcs
    exact ⟨[], Cs.nil _ _, rfl, Nat.le_refl _, Nat.zero_le _, fun _ h => by cases h⟩
  · simp at hcs
    obtain ⟨rfl, rfl, rfl⟩ := hcs
    simp only [if_true] at hmm
    subst hmm
    rw [Try.cellsV] at hi
    have one : ∀ i, i < m → ∃ v : V, v.ok ∧ W.cell? (x.add (i * 3)) = some (.int .u8 v.k) ∧ W.cell? ((x.add (i * 3)).add 1) = some (.int .i64 v.n) ∧ W.cell? ((x.add (i * 3)).add 2) = some (.string v.s) := by
      intro i him
      obtain ⟨cs', hc, htt⟩ := hi i him
      obtain ⟨_, hcl, hat⟩ := World.cells?_some hc
      obtain ⟨y0, y1, y2, n', hx, _, h0, h1, h2⟩ := trod_struct3 Try.underlying38 htt
      match cs', hcl with
      | [c0, c1, c2], _ =>
        have k0 : Try.prog.cellsOf 5 = 1 := by kernel_rfl
        have k1 : Try.prog.cellsOf 3 = 1 := by kernel_rfl
        have k2 : Try.prog.cellsOf 9 = 1 := by kernel_rfl
        simp only [k0, List.drop_zero, List.take_succ_cons, List.take_zero] at h0
        simp only [k1, List.drop_succ_cons, List.drop_zero, List.take_succ_cons, List.take_zero] at h1
        simp only [k2, List.drop_succ_cons, List.drop_zero, List.take_succ_cons, List.take_zero] at h2
        obtain ⟨k, e0, _, w0⟩ := DataW.trod_int Try.underlying5 h0
        obtain ⟨q, e1, _, w1⟩ := DataW.trod_int Try.underlying3 h1
        obtain ⟨s, e2, _, w2⟩ := DataW.trod_string Try.underlying9 h2
        simp only [List.cons.injEq, and_true] at e0 e1 e2
        subst e0 e1 e2
        obtain ⟨a1, a2⟩ := bounds_u8 w0
        obtain ⟨a3, a4⟩ := bounds_i64 w1
        have t0 := hat 0 (by omega)
        have t1 := hat 1 (by omega)
        have t2 := hat 2 (by omega)
        exact ⟨⟨k, q, s⟩, ⟨a1, a2, a3, a4, w2⟩, by simpa [Addr.add] using t0, t1, t2⟩
    have hsp : 0 < len → x.spot = none := fun h0 => by
      obtain ⟨v, _, h, _⟩ := one 0 (by omega)
      simpa [Addr.add] using World.cell?_spot h
    obtain ⟨xb, xo, spot⟩ := x
    have pick : ∃ f : Nat → V, ∀ i, i < m → (f i).ok ∧ W.cell? ((⟨xb, xo, spot⟩ : Addr).add (i * 3)) = some (.int .u8 (f i).k) ∧ W.cell? (((⟨xb, xo, spot⟩ : Addr).add (i * 3)).add 1) = some (.int .i64 (f i).n) ∧ W.cell? (((⟨xb, xo, spot⟩ : Addr).add (i * 3)).add 2) = some (.string (f i).s) :=
      ⟨fun i => if h : i < m then (one i h).choose else V.mk 0 0 ByteArray.empty, fun i h => by simp only [h, dif_pos]; exact (one i h).choose_spec⟩
    obtain ⟨f, hfi⟩ := pick
    refine ⟨(List.range len).map f, ?_, by simp, hl, hm, ?_⟩
    · intro q u hu
      have hq : q < len * 3 := by
        have := (List.getElem?_eq_some_iff.1 hu).1
        rw [vcells_length] at this; simpa using this
      obtain rfl := hsp (by omega)
      refine ⟨xb, xo, rfl, ?_⟩
      obtain ⟨i, r, hr3, rfl⟩ : ∃ i r, r < 3 ∧ q = i * 3 + r := ⟨q / 3, q % 3, by omega, by omega⟩
      have hi3 : i < len := by omega
      obtain ⟨_, c0, c1, c2⟩ := hfi i (by omega)
      have hg := vcells_get ((List.range len).map f) i (by simpa using hi3)
      simp only [List.getElem_map, List.getElem_range] at hg
      rw [Addr.add_lit] at c0 c1 c2
      rw [Addr.add_lit] at c1 c2
      match r, hr3 with
      | 0, _ => rw [Nat.add_zero, hg.1] at hu; rw [Nat.add_zero, c0]; exact hu
      | 1, _ => rw [hg.2.1] at hu; rw [← Nat.add_assoc, c1]; exact hu
      | 2, _ => rw [hg.2.2] at hu; rw [← Nat.add_assoc, c2]; exact hu
    · intro v hv
      obtain ⟨i, hi2, rfl⟩ := List.mem_map.1 hv
      exact (hfi i (by have := List.mem_range.1 hi2; omega)).1
theorem Try.cellsKy : Try.prog.cellsOf 59 = 2 := by kernel_rfl
def Ky.ok (a : Ky) : Prop := -9223372036854775808 ≤ a.col ∧ a.col ≤ 9223372036854775807
theorem open_kF {H : Type} {enc : TypeId × Value → H} {W : World} {t : TypeId} (ht : Try.prog.underlying t = some (.slice 59)) {fuel : Nat} {a : Option Addr} {len cap : Nat} {x : DataW H × List MemPlace} (hf : DataW.trod enc Try.prog W 0 (fun _ => true) true fuel t [.slice a len cap] = some x) :
    ∃ l : List Ky, Cs W a (kcells l) ∧ l.length = len ∧ len ≤ cap ∧ cap ≤ maxLen ∧ ∀ v ∈ l, v.ok := by
  rcases open_slice ht hf with ⟨hcs, _⟩ | ⟨x, l, c, m, n, D, Pl, hcs, _, hl, hm, hmm, hx, hi⟩
  · simp at hcs
    obtain ⟨rfl, rfl, rfl⟩ := hcs
    exact ⟨[], Cs.nil _ _, rfl, Nat.le_refl _, Nat.zero_le _, fun _ h => by cases h⟩
  · simp at hcs
    obtain ⟨rfl, rfl, rfl⟩ := hcs
    simp only [if_true] at hmm
    subst hmm
    rw [Try.cellsKy] at hi
    have one : ∀ i, i < m → ∃ v : Ky, v.ok ∧ W.cell? (x.add (i * 2)) = some (.int .i64 v.col) ∧ W.cell? ((x.add (i * 2)).add 1) = some (.bool v.down) := by
      intro i him
      obtain ⟨cs', hc, htt⟩ := hi i him
      obtain ⟨_, hcl, hat⟩ := World.cells?_some hc
      obtain ⟨y0, y1, n', hx, _, h0, h1⟩ := trod_struct2 Try.underlying59 htt
      match cs', hcl with
      | [c0, c1], _ =>
        have k0 : Try.prog.cellsOf 3 = 1 := by kernel_rfl
        have k1 : Try.prog.cellsOf 4 = 1 := by kernel_rfl
        simp only [k0, List.drop_zero, List.take_succ_cons, List.take_zero] at h0
        simp only [k1, List.drop_succ_cons, List.drop_zero, List.take_succ_cons, List.take_zero] at h1
        obtain ⟨q, e1, _, w1⟩ := DataW.trod_int Try.underlying3 h0
        obtain ⟨d, e2, _⟩ := DataW.trod_bool Try.underlying4 h1
        simp only [List.cons.injEq, and_true] at e1 e2
        subst e1 e2
        obtain ⟨a3, a4⟩ := bounds_i64 w1
        have t0 := hat 0 (by omega)
        have t1 := hat 1 (by omega)
        exact ⟨⟨q, d⟩, ⟨a3, a4⟩, by simpa [Addr.add] using t0, t1⟩
    have hsp : 0 < len → x.spot = none := fun h0 => by
      obtain ⟨v, _, h, _⟩ := one 0 (by omega)
      simpa [Addr.add] using World.cell?_spot h
    obtain ⟨xb, xo, spot⟩ := x
    have pick : ∃ f : Nat → Ky, ∀ i, i < m → (f i).ok ∧ W.cell? ((⟨xb, xo, spot⟩ : Addr).add (i * 2)) = some (.int .i64 (f i).col) ∧ W.cell? (((⟨xb, xo, spot⟩ : Addr).add (i * 2)).add 1) = some (.bool (f i).down) :=
      ⟨fun i => if h : i < m then (one i h).choose else Ky.mk 0 false, fun i h => by simp only [h, dif_pos]; exact (one i h).choose_spec⟩
    obtain ⟨f, hfi⟩ := pick
    refine ⟨(List.range len).map f, ?_, by simp, hl, hm, ?_⟩
    · intro q u hu
      have hq : q < len * 2 := by
        have := (List.getElem?_eq_some_iff.1 hu).1
        rw [kcells_length] at this; simpa using this
      obtain rfl := hsp (by omega)
      refine ⟨xb, xo, rfl, ?_⟩
      obtain ⟨i, r, hr3, rfl⟩ : ∃ i r, r < 2 ∧ q = i * 2 + r := ⟨q / 2, q % 2, by omega, by omega⟩
      have hi3 : i < len := by omega
      obtain ⟨_, c0, c1⟩ := hfi i (by omega)
      have hg := kcells_get ((List.range len).map f) i (by simpa using hi3)
      simp only [List.getElem_map, List.getElem_range] at hg
      rw [Addr.add_lit] at c0 c1
      rw [Addr.add_lit] at c1
      match r, hr3 with
      | 0, _ => rw [Nat.add_zero, hg.1] at hu; rw [Nat.add_zero, c0]; exact hu
      | 1, _ => rw [hg.2] at hu; rw [← Nat.add_assoc, c1]; exact hu
    · intro v hv
      obtain ⟨i, hi2, rfl⟩ := List.mem_map.1 hv
      exact (hfi i (by have := List.mem_range.1 hi2; omega)).1
theorem Try.cellsRow : Try.prog.cellsOf 36 = 1 := by kernel_rfl
def Rw.ok (r : Rw) : Prop := ∀ v ∈ r.l, v.ok
theorem open_rF {H : Type} {enc : TypeId × Value → H} {W : World} {t : TypeId} (ht : Try.prog.underlying t = some (.slice 36)) {fuel : Nat} {a : Option Addr} {len cap : Nat} {x : DataW H × List MemPlace} (hf : DataW.trod enc Try.prog W 0 (fun _ => true) true fuel t [.slice a len cap] = some x) :
    ∃ l : List Rw, Tab W a l ∧ l.length = len ∧ len ≤ cap ∧ cap ≤ maxLen ∧ ∀ v ∈ l, v.ok := by
  rcases open_slice ht hf with ⟨hcs, _⟩ | ⟨x, l, c, m, n, D, Pl, hcs, _, hl, hm, hmm, hx, hi⟩
  · simp at hcs
    obtain ⟨rfl, rfl, rfl⟩ := hcs
    exact ⟨[], Tab.nil _ _, rfl, Nat.le_refl _, Nat.zero_le _, fun _ h => by cases h⟩
  · simp at hcs
    obtain ⟨rfl, rfl, rfl⟩ := hcs
    simp only [if_true] at hmm
    subst hmm
    rw [Try.cellsRow] at hi
    have one : ∀ i, i < m → ∃ v : Rw, v.ok ∧ RowOk W v ∧ W.cell? (x.add i) = some (.slice v.a v.n v.cap) := by
      intro i him
      obtain ⟨cs', hc, htt⟩ := hi i him
      obtain ⟨_, hcl, hat⟩ := World.cells?_some hc
      rw [Nat.mul_one] at hat
      match cs', hcl with
      | [c0], _ =>
        have hsh : ∃ a' l' c', c0 = .slice a' l' c' := by
          rcases open_slice Try.underlying36 htt with ⟨h1, _⟩ | ⟨a', l', c', _, _, _, _, h1, _⟩
          · exact ⟨_, _, _, by simpa using h1⟩
          · exact ⟨_, _, _, by simpa using h1⟩
        obtain ⟨a', l', c', rfl⟩ := hsh
        obtain ⟨vs, g1, g2, g3, g4, g5⟩ := open_vF Try.underlying36 htt
        have t0 := hat 0 (by omega)
        exact ⟨⟨a', l', c', vs⟩, g5, ⟨g1, g2, g3, g4, fun v hv => (g5 v hv).1⟩, by simpa [Addr.add] using t0⟩
    have hsp : 0 < len → x.spot = none := fun h0 => by
      obtain ⟨v, _, _, h⟩ := one 0 (by omega)
      simpa [Addr.add] using World.cell?_spot h
    obtain ⟨xb, xo, spot⟩ := x
    have pick : ∃ f : Nat → Rw, ∀ i, i < m → (f i).ok ∧ RowOk W (f i) ∧ W.cell? ((⟨xb, xo, spot⟩ : Addr).add i) = some (.slice (f i).a (f i).n (f i).cap) :=
      ⟨fun i => if h : i < m then (one i h).choose else ⟨none, 0, 0, []⟩, fun i h => by simp only [h, dif_pos]; exact (one i h).choose_spec⟩
    obtain ⟨f, hfi⟩ := pick
    refine ⟨(List.range len).map f, ⟨?_, ?_⟩, by simp, hl, hm, ?_⟩
    · intro q u hu
      have hq : q < len := by
        have := (List.getElem?_eq_some_iff.1 hu).1
        rw [rwcells_length] at this; simpa using this
      obtain rfl := hsp (by omega)
      refine ⟨xb, xo, rfl, ?_⟩
      obtain ⟨_, _, c0⟩ := hfi q (by omega)
      rw [Addr.add_lit] at c0
      rw [c0, ← hu]
      simp [rwcells, hq, Rw.sl]
    · intro v hv
      obtain ⟨i, hi2, rfl⟩ := List.mem_map.1 hv
      exact (hfi i (by have := List.mem_range.1 hi2; omega)).2.1
    · intro v hv
      obtain ⟨i, hi2, rfl⟩ := List.mem_map.1 hv
      exact (hfi i (by have := List.mem_range.1 hi2; omega)).1
end Go.Proofs.Ytbiniecjenencaa
