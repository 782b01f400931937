/- BloomOrder: for every input it returns true, and the arguments read as before. -/
import Derived.Test.YtfakpmikflaofaaBloomOrder
import Derived.Test.YtfakpmikflaofaaVRow
import Derived.Test.YtfakpmikflaofaaShut
set_option linter.unusedVariables false
set_option linter.unusedSimpArgs false
namespace Go.Proofs.Ytfakpmikflaofaa
open Go.ChangeShapes Go.WideShapes Go.ChangeAt Go.RowKit
open Go.ChangeMaps (open_string shut_string)
set_option maxRecDepth 100000 in
theorem bloomOrder_lifted (os : Os) (started : os.Started) (H : Type) (enc : TypeId × Value → H) :
    ReturnsInHanded {} Try.checked os 6 .any (Rows.bloomOrderSpec.pre6 enc Try.prog Try.f6 Rows.bloomOrderRow.domain false) (Rows.bloomOrderSpec.post enc Try.prog Try.f6 false true false false) := by
  refine returnsInHanded_of_change_sized (C := Try.checked) rowOwn started (by kernel_rfl) Try.func6
    (ChangeSpec.witness6 (enc := enc) (C := Try.checked) false ⟨#[], #[.int .u16 0, .int .u8 0, .slice none 0 0, .int .u8 0], []⟩ 8 (by kernel_rfl) (by kernel_rfl) (by kernel_rfl) (by kernel_rfl)) ?_
  intro W base args ds gs before hval0 hW _ hsz0 _
  have hval : ∀ (j : Nat) t v, Try.f6.params[j]? = some t → args[j]? = some v → Value.okWide Try.prog W .any base t v := hval0
  have hsz : (DataW.weightsEach Try.prog (Try.f6.params.toList ++ Rows.bloomOrderSpec.plain.varTypes Try.prog) (ds ++ gs)).all (· ≤ reachBytes) = true := hsz0
  clear hsz0
  have hW' := hW
  obtain ⟨p, q, hA0, hV, rfl, hfz, hnd⟩ := hW
  have hA : DataW.TrodAll enc Try.prog W 0 (fun _ => true) true Try.f6.params.toList args.toList ds p := hA0
  rw [Try.params6] at hA hval hsz
  obtain ⟨v0, vs0, d0, ds0, p0, q0, hargs, rfl, rfl, h0, r0⟩ := trodAll_cons hA
  obtain ⟨v1, vs1, d1, ds1, p1, q1, rfl, rfl, rfl, h1, r1⟩ := trodAll_cons r0
  obtain ⟨v2, vs2, d2, ds2, p2, q2, rfl, rfl, rfl, h2, r2⟩ := trodAll_cons r1
  obtain ⟨v3, vs3, d3, ds3, p3, q3, rfl, rfl, rfl, h3, r3⟩ := trodAll_cons r2
  obtain ⟨rfl, rfl, rfl⟩ := trodAll_nil r3
  obtain rfl : args = #[v0, v1, v2, v3] := by cases args; simp_all
  obtain ⟨rfl, rfl⟩ := trodVars_none hV
  obtain ⟨a0, rfl, rfl, rfl, wf0⟩ := open_int Try.underlying42 (hval 0 42 v0 rfl rfl) h0
  obtain ⟨lo0, hi0⟩ := bounds_u16 wf0
  obtain ⟨a1, rfl, rfl, rfl, wf1⟩ := open_int Try.underlying5 (hval 1 5 v1 rfl rfl) h1
  obtain ⟨lo1, hi1⟩ := bounds_u8 wf1
  obtain ⟨a2, len2, cap2, rfl⟩ := okWide_slice Try.underlying22 (hval 2 22 v2 rfl rfl)
  have k2 := h2
  have lt2 : ∀ x ∈ p2, x.block < W.heap.size := by obtain ⟨m, hm⟩ := k2; exact DataW.trod_lt m _ _ _ hm
  obtain ⟨xs2, c2, l2, lc2, cm2, rs2, ok2⟩ := open_vrow h2 hsz (j := 2) rfl rfl
  obtain ⟨a3, rfl, rfl, rfl, wf3⟩ := open_int Try.underlying5 (hval 3 5 v3 rfl rfl) h3
  obtain ⟨lo3, hi3⟩ := bounds_u8 wf3
  clear hA0 hval0 hval
  obtain ⟨a0, rfl⟩ : ∃ q : Nat, a0 = (q : Int) := ⟨a0.toNat, by omega⟩
  obtain ⟨a1, rfl⟩ : ∃ q : Nat, a1 = (q : Int) := ⟨a1.toNat, by omega⟩
  obtain ⟨a3, rfl⟩ : ∃ q : Nat, a3 = (q : Int) := ⟨a3.toNat, by omega⟩
  refine (bloomOrder_any a0 a1 a3 a2 len2 cap2 xs2 W (by omega) (by omega) (by omega) c2 l2 lc2 cm2 (fun v hv => (ok2 v hv).2.2.2.2) (fun v hv => ⟨(ok2 v hv).2.2.1, (ok2 v hv).2.2.2.1⟩)).mono fun e W' ⟨he, bel⟩ => ?_
  subst he
  exact ⟨_, rfl, _, _, _, [], _, [], hW', trodAll_mk1 (shut_bool Try.underlying4 _), (trodAll_cons_mk (shut_int Try.underlying42 wf0) (trodAll_cons_mk (shut_int Try.underlying5 wf1) (trodAll_cons_mk (Below.trod rowLaidOut (by kernel_rfl) (of_decide_eq_true (by kernel_rfl)) k2 bel lt2) (trodAll_cons_mk (shut_int Try.underlying5 wf3) trodAll_mk0)))), rfl, bel.frame _, fun h => by cases h⟩

theorem bloomOrder_over : Rows.bloomOrderRow.holds Try.pinned (OpenSpec.ofChange Rows.bloomOrderSpec) :=
  OpenClaim.holds_of_wide 6 Try.f6 rfl rfl rfl rfl rfl rfl rfl ⟨rfl, rfl, rfl, rfl, rfl⟩ rfl rfl rfl rfl rfl (by kernel_rfl) Try.func6 (by kernel_rfl)
    (of_decide_eq_true (by kernel_rfl)) (by unfold Func.isWrapper; first | (rw [if_pos (by decide +kernel)]; kernel_rfl) | (rw [if_neg (by decide +kernel)]; exact ⟨rfl, rfl⟩))
    (fun os started H enc _ => bloomOrder_lifted os started H enc)
theorem bloomOrder_holds : Rows.BloomOrderSaid := bloomOrder_over
end Go.Proofs.Ytfakpmikflaofaa
