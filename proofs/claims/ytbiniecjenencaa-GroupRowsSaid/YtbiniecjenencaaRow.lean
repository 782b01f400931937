/- Tab of values, keys, and how two rows stand to each other: plain. -/
import Derived.Test.YtbiniecjenencaaVOwn
import Derived.Test.YtbiniecjenencaaForms
import Derived.Test.YtbiniecjenencaaVAt
import Derived.Test.YtbiniecjenencaaAt
set_option linter.unusedVariables false
set_option linter.unusedSimpArgs false
set_option maxRecDepth 10000
namespace Go.Proofs.Ytbiniecjenencaa
open Go.RowKit
/-- A row: where it lies, and its values. -/
structure Rw where
  a : Option Addr
  n : Nat
  cap : Nat
  l : List V
def Rw.sl (r : Rw) : Value := .slice r.a r.n r.cap
def rwcells (rows : List Rw) : List Value := rows.map Rw.sl
theorem rwcells_length (l : List Rw) : (rwcells l).length = l.length := by simp [rwcells]
theorem rwcells_append (a b : List Rw) : rwcells (a ++ b) = rwcells a ++ rwcells b := by simp [rwcells]
theorem rwcells_one (l : List Rw) : ∀ u ∈ rwcells l, u.oneCell' = true := by
  intro u hu; obtain ⟨_, _, rfl⟩ := List.mem_map.1 hu; rfl
/-- A row's values lie where it says. -/
structure RowOk (w : World) (r : Rw) : Prop where
  cs : Cs w r.a (vcells r.l)
  len : r.l.length = r.n
  le : r.n ≤ r.cap
  max : r.cap ≤ maxLen
  kind : ∀ v ∈ r.l, 0 ≤ v.k
theorem RowOk.mono {w w' : World} {r : Rw} (h : RowOk w r) (hb : Below w.heap.size w w') : RowOk w' r := ⟨h.cs.mono hb (Nat.le_refl _), h.len, h.le, h.max, h.kind⟩
/-- Tab lie at ao, and their values where they say. -/
structure Tab (w : World) (ao : Option Addr) (rows : List Rw) : Prop where
  cs : Cs w ao (rwcells rows)
  ok : ∀ r ∈ rows, RowOk w r
theorem Tab.mono {w w' : World} {ao : Option Addr} {rows : List Rw} (h : Tab w ao rows) (hb : Below w.heap.size w w') : Tab w' ao rows := ⟨h.cs.mono hb (Nat.le_refl _), fun r hr => (h.ok r hr).mono hb⟩
theorem Tab.take {w : World} {ao : Option Addr} {rows : List Rw} (h : Tab w ao rows) (k : Nat) : Tab w ao (rows.take k) :=
  ⟨by have := h.cs.take k; rwa [show (rwcells rows).take k = rwcells (rows.take k) by simp [rwcells, List.map_take]] at this, fun r hr => h.ok r (List.mem_of_mem_take hr)⟩
theorem Tab.nil (w : World) (ao : Option Addr) : Tab w ao [] := ⟨Cs.nil _ _, fun _ h => by cases h⟩
theorem Tab.at {w : World} {b o : Nat} {rows : List Rw} (h : Tab w (some ⟨b, o, none⟩) rows) {i : Nat} (hi : i < rows.length) : w.cell? ⟨b, o + i, none⟩ = some (.slice rows[i].a rows[i].n rows[i].cap) :=
  h.cs.at (by simp [rwcells, hi, Rw.sl])
/-- A key. -/
structure Ky where
  col : Int
  down : Bool
def kcells : List Ky → List Value
  | [] => []
  | k :: l => .int .i64 k.col :: .bool k.down :: kcells l
theorem kcells_length : ∀ l : List Ky, (kcells l).length = l.length * 2
  | [] => rfl
  | v :: l => by simp only [kcells, List.length_cons, kcells_length l]; omega
theorem kcells_get : ∀ (l : List Ky) (i : Nat) (h : i < l.length), (kcells l)[i * 2]? = some (.int .i64 l[i].col) ∧ (kcells l)[i * 2 + 1]? = some (.bool l[i].down)
  | [], i, h => absurd h (by simp)
  | v :: l, 0, h => ⟨rfl, rfl⟩
  | v :: l, i + 1, h => by
    have ih := kcells_get l i (by simpa using h)
    simp only [kcells, List.getElem_cons_succ]
    rw [show (i + 1) * 2 = i * 2 + 2 by omega]
    exact ih
theorem kcells_take : ∀ (l : List Ky) (k : Nat), (kcells l).take (k * 2) = kcells (l.take k)
  | [], k => by simp [kcells]
  | v :: l, 0 => by simp [kcells]
  | v :: l, k + 1 => by
    rw [show (k + 1) * 2 = k * 2 + 1 + 1 by omega]
    simp only [kcells, List.take_succ_cons, kcells_take l k]
theorem Cs.kat {w : World} {b o : Nat} {l : List Ky} (h : Cs w (some ⟨b, o, none⟩) (kcells l)) {i : Nat} (hi : i < l.length) :
    w.cell? ⟨b, o + i * 2, none⟩ = some (.int .i64 l[i].col) ∧ w.cell? ⟨b, o + i * 2 + 1, none⟩ = some (.bool l[i].down) := by
  obtain ⟨h0, h1⟩ := kcells_get l i hi
  exact ⟨h.at h0, h.at h1⟩
/-- A row's value. -/
def atV (l : List V) (col : Int) : V := if 0 ≤ col then l.getD col.toNat V.zero else V.zero
theorem atV_neg {l : List V} {col : Int} (h : col < 0) : atV l col = V.zero := if_neg (by omega)
theorem atV_big {l : List V} {col : Int} (h : (l.length : Int) ≤ col) : atV l col = V.zero := by
  unfold atV
  rw [if_pos (by omega), List.getD_eq_getElem?_getD, List.getElem?_eq_none (by omega)]
  rfl
theorem atV_in {l : List V} {i : Nat} (h : i < l.length) : atV l (i : Int) = l[i] := by
  unfold atV
  rw [if_pos (by omega), Int.toNat_natCast, List.getD_eq_getElem?_getD, List.getElem?_eq_getElem h]
  rfl
theorem atV_kind {l : List V} (h : ∀ v ∈ l, 0 ≤ v.k) (col : Int) : 0 ≤ (atV l col).k := by
  unfold atV
  split
  · rw [List.getD_eq_getElem?_getD]
    cases e : l[col.toNat]? with
    | none => exact Int.le_refl _
    | some v => exact h v (List.mem_of_getElem? e)
  · exact Int.le_refl _
/-- How two values stand to each other by a key. -/
def oneC (a b : V) (down : Bool) : Int := if a.k = 0 ∧ b.k = 0 then 0 else if a.k = 0 then -1 else if b.k = 0 then 1 else if down = true then cmpV b a else cmpV a b
def cmpR (a b : List V) : List Ky → Int
  | [] => 0
  | k :: ks => if oneC (atV a k.col) (atV b k.col) k.down = 0 then cmpR a b ks else oneC (atV a k.col) (atV b k.col) k.down
/-- As the reference has it. -/
def nrmV (v : V) : V := if v.k = 0 then V.zero else v
def oneR (a b : V) (down : Bool) : Int := if down = true ∧ a.k ≠ 0 ∧ b.k ≠ 0 then -(cmpV a b) else cmpV a b
theorem cmpV_less_k {a b : V} (h : a.k < b.k) : cmpV a b = -1 := by
  unfold cmpV or3 cmpI
  rw [if_pos h]; simp
theorem oneR_eq {a b : V} (ha : 0 ≤ a.k) (hb : 0 ≤ b.k) (down : Bool) : oneR (nrmV a) (nrmV b) down = oneC a b down := by
  have z : V.zero.k = 0 := rfl
  by_cases h1 : a.k = 0
  · have e1 : nrmV a = V.zero := if_pos h1
    by_cases h2 : b.k = 0
    · have e2 : nrmV b = V.zero := if_pos h2
      have e3 : oneC a b down = 0 := if_pos ⟨h1, h2⟩
      rw [e1, e2, e3]
      exact (if_neg (fun h => h.2.1 z)).trans (cmpV_zero.2 rfl)
    · have e2 : nrmV b = b := if_neg h2
      have e3 : oneC a b down = -1 := (if_neg (fun h => h2 h.2)).trans (if_pos h1)
      rw [e1, e2, e3]
      exact (if_neg (fun h => h.2.1 z)).trans (cmpV_less_k (by omega))
  · have e1 : nrmV a = a := if_neg h1
    by_cases h2 : b.k = 0
    · have e2 : nrmV b = V.zero := if_pos h2
      have e3 : oneC a b down = 1 := (if_neg (fun h => h1 h.1)).trans ((if_neg h1).trans (if_pos h2))
      rw [e1, e2, e3]
      refine (if_neg (fun h => h.2.2 z)).trans ?_
      rw [cmpV_neg V.zero a, cmpV_less_k (by omega)]
      rfl
    · have e2 : nrmV b = b := if_neg h2
      have e3 : oneC a b down = if down = true then cmpV b a else cmpV a b := (if_neg (fun h => h1 h.1)).trans ((if_neg h1).trans (if_neg h2))
      rw [e1, e2, e3]
      cases down with
      | true => exact (if_pos ⟨rfl, h1, h2⟩).trans (cmpV_neg a b).symm
      | false => exact if_neg (fun h => by cases h.1)
/-- The order: of any three. -/
theorem oneC_neg (a b : V) (down : Bool) : oneC b a down = - oneC a b down := by
  unfold oneC
  by_cases h1 : a.k = 0 <;> by_cases h2 : b.k = 0 <;> cases down <;> simp [h1, h2, cmpV_neg a b]
theorem oneC_refl (a : V) (down : Bool) : oneC a a down = 0 := by
  unfold oneC
  by_cases h1 : a.k = 0 <;> cases down <;> simp [h1, cmpV_zero.2 rfl]
theorem Tri.neg {x y z : Int} (h : Tri (-y) (-x) (-z)) : True := trivial
theorem oneC_range (a b : V) (down : Bool) : oneC a b down = -1 ∨ oneC a b down = 0 ∨ oneC a b down = 1 := by
  unfold oneC
  split
  · simp
  · split
    · simp
    · split
      · simp
      · split
        · exact cmpV_range b a
        · exact cmpV_range a b
theorem oneC_tri (a b c : V) (down : Bool) : Tri (oneC a b down) (oneC b c down) (oneC a c down) := by
  have h1 := cmpV_tri a b c
  have h2 := cmpV_tri c b a
  have e1 := cmpV_neg a b
  have e2 := cmpV_neg b c
  have e3 := cmpV_neg a c
  unfold Tri at *
  unfold oneC
  by_cases ha : a.k = 0 <;> by_cases hb : b.k = 0 <;> by_cases hc : c.k = 0 <;> cases down <;> simp [ha, hb, hc] <;> omega
theorem cmpR_range (a b : List V) : ∀ ks, cmpR a b ks = -1 ∨ cmpR a b ks = 0 ∨ cmpR a b ks = 1
  | [] => by simp [cmpR]
  | k :: ks => by
    unfold cmpR
    split
    · exact cmpR_range a b ks
    · exact oneC_range _ _ _
theorem cmpR_neg (a b : List V) : ∀ ks, cmpR b a ks = - cmpR a b ks
  | [] => rfl
  | k :: ks => by
    unfold cmpR
    rw [oneC_neg (atV a k.col) (atV b k.col), cmpR_neg a b ks]
    by_cases h : oneC (atV a k.col) (atV b k.col) k.down = 0
    · simp [h]
    · rw [if_neg (by omega), if_neg h]
theorem cmpR_refl (a : List V) : ∀ ks, cmpR a a ks = 0
  | [] => rfl
  | k :: ks => by
    unfold cmpR
    rw [oneC_refl, if_pos rfl, cmpR_refl a ks]
theorem cmpR_or2 (a b : List V) (k : Ky) (ks : List Ky) : cmpR a b (k :: ks) = or2 (oneC (atV a k.col) (atV b k.col) k.down) (cmpR a b ks) := rfl
theorem cmpR_tri (a b c : List V) : ∀ ks, Tri (cmpR a b ks) (cmpR b c ks) (cmpR a c ks)
  | [] => by unfold Tri cmpR; omega
  | k :: ks => by
    rw [cmpR_or2, cmpR_or2, cmpR_or2]
    exact (oneC_tri _ _ _ _).or2 (cmpR_tri a b c ks)
theorem cmpR_take_zero (a b : List V) : ∀ (ks : List Ky) (j : Nat), cmpR a b (ks.take j) = 0 → cmpR a b ks = cmpR a b (ks.drop j)
  | [], j, _ => by simp
  | k :: ks, 0, _ => rfl
  | k :: ks, j + 1, h => by
    simp only [List.take_succ_cons, List.drop_succ_cons] at h ⊢
    have h0 : oneC (atV a k.col) (atV b k.col) k.down = 0 := by
      unfold cmpR at h
      split at h
      · assumption
      · exact h
    unfold cmpR at h
    rw [if_pos h0] at h
    rw [show cmpR a b (k :: ks) = cmpR a b ks from if_pos h0]
    exact cmpR_take_zero a b ks j h
theorem cmpR_snoc (a b : List V) (ks : List Ky) (j : Nat) (hj : j < ks.length) (h : cmpR a b (ks.take j) = 0) (h0 : oneC (atV a ks[j].col) (atV b ks[j].col) ks[j].down = 0) : cmpR a b (ks.take (j + 1)) = 0 := by
  have e : ks.take (j + 1) = ks.take j ++ [ks[j]] := List.take_succ_eq_append_getElem hj
  rw [e]
  have h1 := cmpR_take_zero a b (ks.take j ++ [ks[j]]) j (by rw [List.take_append_of_le_length (by rw [List.length_take]; omega), List.take_take, Nat.min_self]; exact h)
  rw [h1, List.drop_left' (by rw [List.length_take]; omega)]
  unfold cmpR
  rw [if_pos h0]
  rfl
theorem cmpR_at (a b : List V) (ks : List Ky) (j : Nat) (hj : j < ks.length) (h : cmpR a b (ks.take j) = 0) (h0 : oneC (atV a ks[j].col) (atV b ks[j].col) ks[j].down ≠ 0) : cmpR a b ks = oneC (atV a ks[j].col) (atV b ks[j].col) ks[j].down := by
  rw [cmpR_take_zero a b ks j h, List.drop_eq_getElem_cons hj]
  conv => lhs; unfold cmpR
  rw [if_neg h0]
end Go.Proofs.Ytbiniecjenencaa
