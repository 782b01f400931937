/- Equality of values. -/
import Derived.Test.YtbikcjjbdgmhpaaTell
set_option linter.unusedVariables false
namespace Go.Proofs.Ytbikcjjbdgmhpaa
open Go.RowKit
theorem V.ext_ {a b : V} (h1 : a.k = b.k) (h2 : a.n = b.n) (h3 : a.s = b.s) : a = b := by cases a; cases b; simp_all
theorem toList_inj {s t : ByteArray} (h : s.toList = t.toList) : s = t := by
  rw [ByteArray.toList_eq, ByteArray.toList_eq] at h
  cases s; cases t; simp at h; subst h; rfl
def eqV (a b : V) : Bool := a.k == b.k && (a.n == b.n && a.s.toList == b.s.toList)
theorem eqV_iff {a b : V} : eqV a b = true ↔ a = b := by
  unfold eqV
  constructor
  · intro h
    simp only [Bool.and_eq_true, beq_iff_eq] at h
    exact V.ext_ h.1 h.2.1 (toList_inj h.2.2)
  · rintro rfl; simp
theorem run_eqV (k n k' n' : Int) (s s' : ByteArray) (w : World) : (binOp .eql 23 (.agg #[.int .u8 k, .int .i64 n, .string s]) (.agg #[.int .u8 k', .int .i64 n', .string s'])).run Try.prog w = .ok (.bool (eqV ⟨k, n, s⟩ ⟨k', n', s'⟩)) w := by
  go_simp
  unfold eqV
  by_cases h1 : k = k' <;> by_cases h2 : n = n' <;> by_cases h3 : s.toList = s'.toList <;> simp [h1, h2, h3]
theorem exec_eqV {ρ : Operand → Value} {x y : Operand} {dst : Option Tmp} {T2 ty : TypeId} {pos : String} {af : Array Edge} {g : Option (Nat × Bool)} (a b : V) (hx : ρ x = a.val) (hy : ρ y = b.val) (w : World) :
    (execOp ρ ⟨dst, .binOp .eql 23 x y T2, ty, pos, af, g⟩).run Try.prog w = .ok (.value (.bool (eqV a b))) w := by
  obtain ⟨k, n, s⟩ := a
  obtain ⟨k', n', s'⟩ := b
  simp only [V.val] at hx hy
  unfold eqV
  by_cases h1 : k = k' <;> by_cases h2 : n = n' <;> by_cases h3 : s.toList = s'.toList <;> simp [execOp, hx, hy, go_sem, h1, h2, h3]
theorem exec_neV {ρ : Operand → Value} {x y : Operand} {dst : Option Tmp} {T2 ty : TypeId} {pos : String} {af : Array Edge} {g : Option (Nat × Bool)} (a b : V) (hx : ρ x = a.val) (hy : ρ y = b.val) (w : World) :
    (execOp ρ ⟨dst, .binOp .neq 23 x y T2, ty, pos, af, g⟩).run Try.prog w = .ok (.value (.bool (!eqV a b))) w := by
  obtain ⟨k, n, s⟩ := a
  obtain ⟨k', n', s'⟩ := b
  simp only [V.val] at hx hy
  unfold eqV
  by_cases h1 : k = k' <;> by_cases h2 : n = n' <;> by_cases h3 : s.toList = s'.toList <;> simp [execOp, hx, hy, go_sem, h1, h2, h3]
/-- An operation whose run is known, in the words of a quiet walk. -/
theorem quiet_as {P : Program} {dst : Option Tmp} {op : Op} {ty : TypeId} {pos : String} {af : Array Edge} {g : Option (Nat × Bool)} {a : Act} {C : World → Prop} {K : Act → Prop} (v : Value)
    (hrun : ∀ w, (execOp a.eval ⟨dst, op, ty, pos, af, g⟩).run P w = .ok (.value v) w) (hne : ∃ w, C w)
    (h : (⟨dst, .move (.const v), ty, pos, af, g⟩ : Oper).quiet P a C K) : (⟨dst, op, ty, pos, af, g⟩ : Oper).quiet P a C K := by
  obtain ⟨u, h1, h2⟩ := h
  obtain ⟨w0, hw0⟩ := hne
  have e := h1 w0 hw0
  have hm : (execOp a.eval ⟨dst, .move (.const v), ty, pos, af, g⟩).run P w0 = .ok (.value v) w0 := rfl
  unfold Oper.quietAt at e
  rw [hm] at e
  obtain ⟨_, rfl⟩ := e
  refine ⟨v, fun w _ => ?_, h2⟩
  unfold Oper.quietAt
  rw [hrun w]
  exact ⟨rfl, rfl⟩
/-- The same, in the words of the plain walk. -/
theorem wpList_as {P : Program} {ops : Array Oper} {rest : List Oper} {w : World} {Q : Exit → Act → World → Prop} {dst : Option Tmp} {op : Op} {ty : TypeId} {pos : String} {af : Array Edge} {g : Option (Nat × Bool)} {a : Act} (v : Value)
    (hgd : Region.wanted ⟨dst, op, ty, pos, af, g⟩ (yielded ops a.tmps) = true) (hrun : (execOp a.eval ⟨dst, op, ty, pos, af, g⟩).run P w = .ok (.value v) w)
    (h : wpList P ops Q rest (a.put dst v) w) : wpList P ops Q (⟨dst, op, ty, pos, af, g⟩ :: rest) a w := by
  refine wpList_want hgd fun K hK => ?_
  unfold Oper.wp
  rw [hrun]
  exact hK _ _ h
theorem Stop.eql {P : Program} {ops : Array Oper} {Q : Exit → Act → World → Prop} {rest : List Oper} {a : Act} {w : World} {dst : Option Tmp} {x y : Operand} {ty t2 : TypeId} {pos : String} {af : Array Edge} {g : Option (Nat × Bool)} (t : TypeId)
    (h : Stop (wpList P ops Q (⟨dst, .binOp .eql t x y t2, ty, pos, af, g⟩ :: rest) a w)) : wpList P ops Q (⟨dst, .binOp .eql t x y t2, ty, pos, af, g⟩ :: rest) a w := h
theorem Stop.neq {P : Program} {ops : Array Oper} {Q : Exit → Act → World → Prop} {rest : List Oper} {a : Act} {w : World} {dst : Option Tmp} {x y : Operand} {ty t2 : TypeId} {pos : String} {af : Array Edge} {g : Option (Nat × Bool)} (t : TypeId)
    (h : Stop (wpList P ops Q (⟨dst, .binOp .neq t x y t2, ty, pos, af, g⟩ :: rest) a w)) : wpList P ops Q (⟨dst, .binOp .neq t x y t2, ty, pos, af, g⟩ :: rest) a w := h
set_option maxHeartbeats 1000000 in
theorem requal_any (a b : V) (w : World) : Calls Try.prog 33 #[a.val, b.val] w (fun e w' => e = .returned (.int .u8 (truthV a b (eqV a b))) ∧ Below w.heap.size w w') := by
  obtain ⟨k, n, s⟩ := a
  obtain ⟨k', n', s'⟩ := b
  have HT := Lib.hid (fun is w => rtruth_any ⟨k, n, s⟩ ⟨k', n', s'⟩ is w)
  simp only [V.val]
  generalize hq : eqV ⟨k, n, s⟩ ⟨k', n', s'⟩ = q
  have HQ := Lib.hid hq
  clear hq
  go_enter Try.func33, Try.ntmps33
  go_wp2_with (first | (at_make; refine Stop.un ?_) | (at_builtin; refine Stop.un ?_) | (with_reducible refine Stop.conv 33 9 ?_) | (with_reducible refine Stop.conv 9 33 ?_))
  refine mix_startE 7 rfl (by kernel_rfl) ?_
  intro x1 hx1
  have e0 : x1.cell? ⟨w.heap.size, 0, none⟩ = some (.int .u8 k) := hx1.cell (by simp)
  have e1 : x1.cell? ⟨w.heap.size, 1, none⟩ = some (.int .i64 n) := hx1.cell (by simp)
  have e2 : x1.cell? ⟨w.heap.size, 2, none⟩ = some (.string s) := hx1.cell (by simp)
  have e3 : x1.cell? ⟨w.heap.size + 1, 0, none⟩ = some (.int .u8 k') := hx1.cell (by simp)
  have e4 : x1.cell? ⟨w.heap.size + 1, 1, none⟩ = some (.int .i64 n') := hx1.cell (by simp)
  have e5 : x1.cell? ⟨w.heap.size + 1, 2, none⟩ = some (.string s') := hx1.cell (by simp)
  refine mix_quiet Keeps.ext 0 rfl (by kernel_rfl) rfl ?_
  intro ι U hne hU
  have hcw0 := fun ii => (hU ii).cell e0
  have hcw1 := fun ii => (hU ii).cell e1
  have hcw2 := fun ii => (hU ii).cell e2
  go_big_quiet_op
  clear hU hne hcw0 hcw1 hcw2 U ι
  show wpAnyM _ _ _ _ _ _ _ _ _
  refine mix_quiet Keeps.ext 1 rfl (by kernel_rfl) rfl ?_
  intro ι U hne hU
  have hcw0 := fun ii => (hU ii).cell e3
  have hcw1 := fun ii => (hU ii).cell e4
  have hcw2 := fun ii => (hU ii).cell e5
  go_big_quiet_op
  clear hU hne hcw0 hcw1 hcw2 U ι
  show wpAnyM _ _ _ _ _ _ _ _ _
  refine mix_quiet Keeps.ext 2 rfl (by kernel_rfl) rfl ?_
  intro ι U hne hU
  have hcw0 := fun ii => (hU ii).cell e0
  have hcw1 := fun ii => (hU ii).cell e1
  have hcw2 := fun ii => (hU ii).cell e2
  go_big_quiet_op
  clear hU hne hcw0 hcw1 hcw2 U ι
  show wpAnyM _ _ _ _ _ _ _ _ _
  refine mix_quiet Keeps.ext 3 rfl (by kernel_rfl) rfl ?_
  intro ι U hne hU
  have hcw0 := fun ii => (hU ii).cell e3
  have hcw1 := fun ii => (hU ii).cell e4
  have hcw2 := fun ii => (hU ii).cell e5
  go_big_quiet_op
  clear hU hne hcw0 hcw1 hcw2 U ι
  show wpAnyM _ _ _ _ _ _ _ _ _
  clear e0 e1 e2 e3 e4 e5
  refine mix_quiet Keeps.ext 4 rfl (by kernel_rfl) rfl ?_
  intro ι U hne hU
  refine quiet_as _ (exec_eqV ⟨k, n, s⟩ ⟨k', n', s'⟩ rfl rfl) (hne.elim fun ii => ⟨_, ii, rfl⟩) ?_
  go_big_quiet_op
  clear hU hne U ι
  show wpAnyM _ _ _ _ _ _ _ _ _
  rw [HQ.out]
  refine mix_any 5 rfl (by kernel_rfl) rfl ?_
  go_wp2_with (first | (at_make; refine Stop.un ?_) | (at_builtin; refine Stop.un ?_) | (with_reducible refine Stop.conv 33 9 ?_) | (with_reducible refine Stop.conv 9 33 ?_))
  refine (HT.out _ _).mono ?_
  rintro e w1 ⟨rfl, b1⟩
  go_wp2_with (first | (at_make; refine Stop.un ?_) | (at_builtin; refine Stop.un ?_) | (with_reducible refine Stop.conv 33 9 ?_) | (with_reducible refine Stop.conv 9 33 ?_))
  refine MixPost.mk b1 ?_
  refine mix_quiet Keeps.ext 6 rfl (by kernel_rfl) rfl ?_
  intro ι U hne hU
  go_big_quiet_op
  clear hU hne U ι
  show wpAnyM _ _ _ _ _ _ _ _ _
  refine mix_end (by kernel_rfl) ?_
  have hb : Below w.heap.size w x1 := (((Below.refl _ _).alloc (Nat.le_refl _) _).alloc (by simp) _).next hx1
  clear hx1
  go_wp2_with (first | (at_make; refine Stop.un ?_) | (at_builtin; refine Stop.un ?_) | (with_reducible refine Stop.conv 33 9 ?_) | (with_reducible refine Stop.conv 9 33 ?_))
  go_ret
  exact ⟨rfl, hb.next b1⟩
end Go.Proofs.Ytbikcjjbdgmhpaa
