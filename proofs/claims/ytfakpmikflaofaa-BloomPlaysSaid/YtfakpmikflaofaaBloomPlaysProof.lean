/- BloomPlays: for every input it returns true, and the arguments read as before. -/
import Derived.Test.YtfakpmikflaofaaBloomPlays
import Derived.Test.YtfakpmikflaofaaVRow
import Derived.Test.YtfakpmikflaofaaShut
set_option linter.unusedVariables false
set_option linter.unusedSimpArgs false
namespace Go.Proofs.Ytfakpmikflaofaa
open Go.ChangeShapes Go.WideShapes Go.ChangeAt Go.RowKit
open Go.ChangeMaps (open_string shut_string)
theorem bloomPlays_any (M E : Int) (ao : Option Addr) (m cap : Nat) (l : List V) (bo : Option Addr) (m2 cap2 : Nat) (l2 : List V) (w : World)
    (hc : Cs w ao (vcells l)) (hm : l.length = m) (hl : m ≤ cap) (hcm : cap ≤ maxLen) (hok : ∀ v ∈ l, v.ok)
    (hc2 : Cs w bo (vcells l2)) (hm2 : l2.length = m2) (hl2 : m2 ≤ cap2) (hcm2 : cap2 ≤ maxLen) (hok2 : ∀ v ∈ l2, v.ok) :
    Calls Try.prog 3 #[.int .i64 M, .int .i64 E, .slice ao m cap, .slice bo m2 cap2] w (fun e w' => e = .returned (.bool true) ∧ Below w.heap.size w w') := by
  by_cases h : newOk M E
  · obtain ⟨h1, h2, h3, h4⟩ := h
    obtain ⟨M, rfl⟩ : ∃ q : Nat, M = (q : Int) := ⟨M.toNat, by omega⟩
    obtain ⟨E, rfl⟩ : ∃ q : Nat, E = (q : Int) := ⟨E.toNat, by omega⟩
    exact bloomPlays_ok M E ao m cap l bo m2 cap2 l2 w (by omega) (by omega) (by omega) (by omega) hc hm hl hcm (fun v hv => (hok v hv).2.2.2.2) (fun v hv => ⟨(hok v hv).2.2.1, (hok v hv).2.2.2.1⟩) hc2 hm2 hl2 hcm2 (fun v hv => (hok2 v hv).2.2.2.2) (fun v hv => ⟨(hok2 v hv).2.2.1, (hok2 v hv).2.2.2.1⟩)
  · exact bloomPlays_bad M E ao bo m cap m2 cap2 w h
set_option maxRecDepth 100000 in
theorem bloomPlays_lifted (os : Os) (started : os.Started) (H : Type) (enc : TypeId × Value → H) :
    ReturnsInHanded {} Try.checked os 3 .any (Rows.bloomPlaysSpec.pre6 enc Try.prog Try.f3 Rows.bloomPlaysRow.domain false) (Rows.bloomPlaysSpec.post enc Try.prog Try.f3 false true false false) := by
  refine returnsInHanded_of_change_sized (C := Try.checked) rowOwn started (by kernel_rfl) Try.func3
    (ChangeSpec.witness6 (enc := enc) (C := Try.checked) false ⟨#[], #[.int .i64 0, .int .i64 0, .slice none 0 0, .slice none 0 0], []⟩ 8 (by kernel_rfl) (by kernel_rfl) (by kernel_rfl) (by kernel_rfl)) ?_
  intro W base args ds gs before hval0 hW _ hsz0 _
  have hval : ∀ (j : Nat) t v, Try.f3.params[j]? = some t → args[j]? = some v → Value.okWide Try.prog W .any base t v := hval0
  have hsz : (DataW.weightsEach Try.prog (Try.f3.params.toList ++ Rows.bloomPlaysSpec.plain.varTypes Try.prog) (ds ++ gs)).all (· ≤ reachBytes) = true := hsz0
  clear hsz0
  have hW' := hW
  obtain ⟨p, q, hA0, hV, rfl, hfz, hnd⟩ := hW
  have hA : DataW.TrodAll enc Try.prog W 0 (fun _ => true) true Try.f3.params.toList args.toList ds p := hA0
  rw [Try.params3] at hA hval hsz
  obtain ⟨v0, vs0, d0, ds0, p0, q0, hargs, rfl, rfl, h0, r0⟩ := trodAll_cons hA
  obtain ⟨v1, vs1, d1, ds1, p1, q1, rfl, rfl, rfl, h1, r1⟩ := trodAll_cons r0
  obtain ⟨v2, vs2, d2, ds2, p2, q2, rfl, rfl, rfl, h2, r2⟩ := trodAll_cons r1
  obtain ⟨v3, vs3, d3, ds3, p3, q3, rfl, rfl, rfl, h3, r3⟩ := trodAll_cons r2
  obtain ⟨rfl, rfl, rfl⟩ := trodAll_nil r3
  obtain rfl : args = #[v0, v1, v2, v3] := by cases args; simp_all
  obtain ⟨rfl, rfl⟩ := trodVars_none hV
  obtain ⟨a0, rfl, rfl, rfl, wf0⟩ := open_int Try.underlying3 (hval 0 3 v0 rfl rfl) h0
  obtain ⟨lo0, hi0⟩ := bounds_i64 wf0
  obtain ⟨a1, rfl, rfl, rfl, wf1⟩ := open_int Try.underlying3 (hval 1 3 v1 rfl rfl) h1
  obtain ⟨lo1, hi1⟩ := bounds_i64 wf1
  obtain ⟨a2, len2, cap2, rfl⟩ := okWide_slice Try.underlying22 (hval 2 22 v2 rfl rfl)
  have k2 := h2
  have lt2 : ∀ x ∈ p2, x.block < W.heap.size := by obtain ⟨m, hm⟩ := k2; exact DataW.trod_lt m _ _ _ hm
  obtain ⟨xs2, c2, l2, lc2, cm2, rs2, ok2⟩ := open_vrow h2 hsz (j := 2) rfl rfl
  obtain ⟨a3, len3, cap3, rfl⟩ := okWide_slice Try.underlying22 (hval 3 22 v3 rfl rfl)
  have k3 := h3
  have lt3 : ∀ x ∈ p3, x.block < W.heap.size := by obtain ⟨m, hm⟩ := k3; exact DataW.trod_lt m _ _ _ hm
  obtain ⟨xs3, c3, l3, lc3, cm3, rs3, ok3⟩ := open_vrow h3 hsz (j := 3) rfl rfl
  clear hA0 hval0 hval
  refine (bloomPlays_any a0 a1 a2 len2 cap2 xs2 a3 len3 cap3 xs3 W c2 l2 lc2 cm2 ok2 c3 l3 lc3 cm3 ok3).mono fun e W' ⟨he, bel⟩ => ?_
  subst he
  exact ⟨_, rfl, _, _, _, [], _, [], hW', trodAll_mk1 (shut_bool Try.underlying4 _), (trodAll_cons_mk (shut_int Try.underlying3 wf0) (trodAll_cons_mk (shut_int Try.underlying3 wf1) (trodAll_cons_mk (Below.trod rowLaidOut (by kernel_rfl) (of_decide_eq_true (by kernel_rfl)) k2 bel lt2) (trodAll_cons_mk (Below.trod rowLaidOut (by kernel_rfl) (of_decide_eq_true (by kernel_rfl)) k3 bel lt3) trodAll_mk0)))), rfl, bel.frame _, fun h => by cases h⟩

theorem bloomPlays_over : Rows.bloomPlaysRow.holds Try.pinned (OpenSpec.ofChange Rows.bloomPlaysSpec) :=
  OpenClaim.holds_of_wide 3 Try.f3 rfl rfl rfl rfl rfl rfl rfl ⟨rfl, rfl, rfl, rfl, rfl⟩ rfl rfl rfl rfl rfl (by kernel_rfl) Try.func3 (by kernel_rfl)
    (of_decide_eq_true (by kernel_rfl)) (by unfold Func.isWrapper; first | (rw [if_pos (by decide +kernel)]; kernel_rfl) | (rw [if_neg (by decide +kernel)]; exact ⟨rfl, rfl⟩))
    (fun os started H enc _ => bloomPlays_lifted os started H enc)
theorem bloomPlays_holds : Rows.BloomPlaysSaid := bloomPlays_over
end Go.Proofs.Ytfakpmikflaofaa
