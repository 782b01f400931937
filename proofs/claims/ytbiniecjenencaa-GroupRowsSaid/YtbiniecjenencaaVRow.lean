/- Rows of values; a row of values that came in. -/
import Derived.Test.YtbiniecjenencaaShutV
import Derived.Deep.Slices
set_option linter.unusedVariables false
set_option linter.unusedSimpArgs false
set_option maxRecDepth 10000
namespace Go.Proofs.Ytbiniecjenencaa
open Go.ChangeShapes Go.WideShapes Go.ChangeAt Go.RowKit Go.Joins Go.Deep
/-- Values as cells. -/
def vcells : List V → List Value
  | [] => []
  | v :: l => .int .u8 v.k :: .int .i64 v.n :: .string v.s :: vcells l
theorem vcells_length : ∀ l : List V, (vcells l).length = l.length * 3
  | [] => rfl
  | v :: l => by simp only [vcells, List.length_cons, vcells_length l]; omega
theorem vcells_append : ∀ a b : List V, vcells (a ++ b) = vcells a ++ vcells b
  | [], _ => rfl
  | v :: a, b => by simp only [List.cons_append, vcells, vcells_append a b]
theorem vcells_one : ∀ l : List V, ∀ u ∈ vcells l, u.oneCell' = true
  | [], u, h => by cases h
  | v :: l, u, h => by
    simp only [vcells, List.mem_cons] at h
    rcases h with rfl | rfl | rfl | h
    · rfl
    · rfl
    · rfl
    · exact vcells_one l u h
theorem vcells_get : ∀ (l : List V) (i : Nat) (h : i < l.length), (vcells l)[i * 3]? = some (.int .u8 l[i].k) ∧ (vcells l)[i * 3 + 1]? = some (.int .i64 l[i].n) ∧ (vcells l)[i * 3 + 2]? = some (.string l[i].s)
  | [], i, h => absurd h (by simp)
  | v :: l, 0, h => ⟨rfl, rfl, rfl⟩
  | v :: l, i + 1, h => by
    have ih := vcells_get l i (by simpa using h)
    simp only [vcells, List.getElem_cons_succ]
    rw [show (i + 1) * 3 = i * 3 + 3 by omega]
    exact ih
theorem vcells_take : ∀ (l : List V) (k : Nat), (vcells l).take (k * 3) = vcells (l.take k)
  | [], k => by simp [vcells]
  | v :: l, 0 => by simp [vcells]
  | v :: l, k + 1 => by
    rw [show (k + 1) * 3 = k * 3 + 1 + 1 + 1 by omega]
    simp only [vcells, List.take_succ_cons, vcells_take l k]
theorem vcells_drop : ∀ (l : List V) (k : Nat), (vcells l).drop (k * 3) = vcells (l.drop k)
  | [], k => by simp [vcells]
  | v :: l, 0 => by simp [vcells]
  | v :: l, k + 1 => by
    rw [show (k + 1) * 3 = k * 3 + 1 + 1 + 1 by omega]
    simp only [vcells, List.drop_succ_cons, vcells_drop l k]
theorem Cs.vat {w : World} {b o : Nat} {l : List V} (h : Cs w (some ⟨b, o, none⟩) (vcells l)) {i : Nat} (hi : i < l.length) :
    w.cell? ⟨b, o + i * 3, none⟩ = some (.int .u8 l[i].k) ∧ w.cell? ⟨b, o + i * 3 + 1, none⟩ = some (.int .i64 l[i].n) ∧ w.cell? ⟨b, o + i * 3 + 2, none⟩ = some (.string l[i].s) := by
  obtain ⟨h0, h1, h2⟩ := vcells_get l i hi
  exact ⟨h.at h0, h.at h1, h.at h2⟩
theorem Try.bytesV : Try.prog.bytesOf 38 = 32 := by kernel_rfl
/-- A row of values that came in. -/
theorem open_vrow {H : Type} {enc : TypeId × Value → H} {W : World} {a : Option Addr} {len cap : Nat} {d : DataW H} {p : List MemPlace} (h : DataW.Trod enc Try.prog W 0 (fun _ => true) true 35 (.slice a len cap) d p)
    {ts : List TypeId} {ds : List (DataW H)} (hsz : (DataW.weightsEach Try.prog ts ds).all (· ≤ reachBytes) = true) {j : Nat} (hj : ts[j]? = some 35) (hd : ds[j]? = some d) :
    ∃ l : List V, Cs W a (vcells l) ∧ l.length = len ∧ len ≤ cap ∧ cap ≤ maxLen ∧ cap * 32 ≤ 140737488351232 ∧ ∀ v ∈ l, v.ok := by
  obtain ⟨fuel, hf⟩ := h
  rcases open_slice Try.underlying35 hf with ⟨hcs, _⟩ | ⟨x, l, c, m, n, D, Pl, hcs, _, hl, hm, hmm, hx, hi⟩
  · simp [Value.cells] at hcs
    obtain ⟨rfl, rfl, rfl⟩ := hcs
    exact ⟨[], Cs.nil _ _, rfl, Nat.le_refl _, Nat.zero_le _, by simp, fun _ h => by cases h⟩
  · simp [Value.cells] at hcs
    obtain ⟨rfl, rfl, rfl⟩ := hcs
    simp only [if_true] at hmm
    subst hmm
    rw [Try.cellsV] at hi
    simp only [Prod.mk.injEq] at hx
    obtain ⟨rfl, rfl⟩ := hx
    have hr := sized_slice hsz hj hd Try.underlying35
    rw [Try.bytesV] at hr
    simp only [List.length_map, List.length_range, reachBytes] at hr
    have one : ∀ i, i < m → ∃ v : V, v.ok ∧ W.cell? (x.add (i * 3)) = some (.int .u8 v.k) ∧ W.cell? ((x.add (i * 3)).add 1) = some (.int .i64 v.n) ∧ W.cell? ((x.add (i * 3)).add 2) = some (.string v.s) := by
      intro i him
      obtain ⟨cs', hc, ht⟩ := hi i him
      obtain ⟨_, hcl, hat⟩ := World.cells?_some hc
      obtain ⟨y0, y1, y2, n', hx, _, h0, h1, h2⟩ := trod_struct3 Try.underlying38 ht
      match cs', hcl with
      | [c0, c1, c2], _ =>
        have k0 : Try.prog.cellsOf 5 = 1 := by kernel_rfl
        have k1 : Try.prog.cellsOf 3 = 1 := by kernel_rfl
        have k2 : Try.prog.cellsOf 9 = 1 := by kernel_rfl
        simp only [k0, List.drop_zero, List.take_succ_cons, List.take_zero] at h0
        simp only [k1, List.drop_succ_cons, List.drop_zero, List.take_succ_cons, List.take_zero] at h1
        simp only [k2, List.drop_succ_cons, List.drop_zero, List.take_succ_cons, List.take_zero] at h2
        obtain ⟨k, e0, _, w0⟩ := DataW.trod_int Try.underlying5 h0
        obtain ⟨q, e1, _, w1⟩ := DataW.trod_int Try.underlying3 h1
        obtain ⟨s, e2, _, w2⟩ := DataW.trod_string Try.underlying9 h2
        simp only [List.cons.injEq, and_true] at e0 e1 e2
        subst e0 e1 e2
        obtain ⟨a1, a2⟩ := bounds_u8 w0
        obtain ⟨a3, a4⟩ := bounds_i64 w1
        have t0 := hat 0 (by omega)
        have t1 := hat 1 (by omega)
        have t2 := hat 2 (by omega)
        exact ⟨⟨k, q, s⟩, ⟨a1, a2, a3, a4, w2⟩, by simpa [Addr.add] using t0, t1, t2⟩
    have hsp : 0 < len → x.spot = none := fun h0 => by
      obtain ⟨v, _, h, _⟩ := one 0 (by omega)
      simpa [Addr.add] using World.cell?_spot h
    obtain ⟨xb, xo, spot⟩ := x
    have pick : ∃ f : Nat → V, ∀ i, i < m → (f i).ok ∧ W.cell? ((⟨xb, xo, spot⟩ : Addr).add (i * 3)) = some (.int .u8 (f i).k) ∧ W.cell? (((⟨xb, xo, spot⟩ : Addr).add (i * 3)).add 1) = some (.int .i64 (f i).n) ∧ W.cell? (((⟨xb, xo, spot⟩ : Addr).add (i * 3)).add 2) = some (.string (f i).s) :=
      ⟨fun i => if h : i < m then (one i h).choose else V.mk 0 0 ByteArray.empty, fun i h => by simp only [h, dif_pos]; exact (one i h).choose_spec⟩
    obtain ⟨f, hfi⟩ := pick
    refine ⟨(List.range len).map f, ?_, by simp, hl, hm, by omega, ?_⟩
    · intro q u hu
      have hq : q < len * 3 := by
        have := (List.getElem?_eq_some_iff.1 hu).1
        rw [vcells_length] at this; simpa using this
      obtain rfl := hsp (by omega)
      refine ⟨xb, xo, rfl, ?_⟩
      obtain ⟨i, r, hr3, rfl⟩ : ∃ i r, r < 3 ∧ q = i * 3 + r := ⟨q / 3, q % 3, by omega, by omega⟩
      have hi3 : i < len := by omega
      obtain ⟨_, c0, c1, c2⟩ := hfi i (by omega)
      have hg := vcells_get ((List.range len).map f) i (by simpa using hi3)
      simp only [List.getElem_map, List.getElem_range] at hg
      rw [Addr.add_lit] at c0 c1 c2
      rw [Addr.add_lit] at c1 c2
      match r, hr3 with
      | 0, _ => rw [Nat.add_zero, hg.1] at hu; rw [Nat.add_zero, c0]; exact hu
      | 1, _ => rw [hg.2.1] at hu; rw [← Nat.add_assoc, c1]; exact hu
      | 2, _ => rw [hg.2.2] at hu; rw [← Nat.add_assoc, c2]; exact hu
    · intro v hv
      obtain ⟨i, hi2, rfl⟩ := List.mem_map.1 hv
      exact (hfi i (by have := List.mem_range.1 hi2; omega)).1
end Go.Proofs.Ytbiniecjenencaa
