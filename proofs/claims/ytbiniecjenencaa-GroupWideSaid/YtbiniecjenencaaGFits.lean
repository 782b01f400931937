/- Is a row one of columns of some kinds? -/
import Derived.Test.YtbiniecjenencaaGKinds
set_option linter.unusedVariables false
set_option linter.unusedSimpArgs false
set_option maxRecDepth 10000
namespace Go.Proofs.Ytbiniecjenencaa
open Go.RowKit
def fitV (u : UInt8) (v : V) : Bool := rightB v && (decide (v.k = 0) || decide (v.k = ((u.toNat : Nat) : Int)))
def fitL : List UInt8 → List V → Bool
  | [], [] => true
  | u :: ks, v :: l => fitV u v && fitL ks l
  | _, _ => false
theorem fitL_len : ∀ (ks : List UInt8) (l : List V), fitL ks l = true → l.length = ks.length
  | [], [], _ => rfl
  | [], _ :: _, h => by simp [fitL] at h
  | _ :: _, [], h => by simp [fitL] at h
  | u :: ks, v :: l, h => by
    simp only [fitL, Bool.and_eq_true] at h
    rw [List.length_cons, List.length_cons, fitL_len ks l h.2]
set_option maxRecDepth 100000 in
set_option maxHeartbeats 8000000 in
theorem gfits_any (ka : Option Addr) (kn kc : Nat) (kinds : List UInt8) (r : Rw) (w : World)
    (h1 : Cs w ka (bcells kinds)) (e1 : kinds.length = kn) (m1 : kn ≤ kc) (c1 : kc ≤ maxLen) (h2 : RowOk w r) :
    Calls Try.prog 25 #[.slice ka kn kc, .slice r.a r.n r.cap] w (fun e w' => e = .returned (.bool (fitL kinds r.l)) ∧ Below w.heap.size w w') := by
  unfold maxLen at c1
  obtain ⟨ra, rn, rc, l⟩ := r
  have hle : rn ≤ rc := h2.le
  have hmx : rc ≤ 9223372036854775807 := h2.max
  have hl : l.length = rn := h2.len
  have hcs := h2.cs
  simp only at hcs
  obtain ⟨q, hq⟩ : ∃ q, fitL kinds l = q := ⟨_, rfl⟩
  rw [hq]
  have HQ := Lib.hid hq
  have HN := Lib.hid (And.intro e1 hl)
  clear h2 hq
  by_cases hn : rn = kn
  · have hnb : ((rn : Int) != (kn : Int)) = false := by simp [hn]
    have HTT := Lib.hid (And.intro h1 hcs)
    subst hn
    clear h1 hcs e1 hl
    go_enter Try.func25, Try.ntmps25
    go_wp2_with (first | (at_make; refine Stop.un ?_) | (at_builtin; refine Stop.un ?_) | (with_reducible refine Stop.conv 22 9 ?_) | (with_reducible refine Stop.conv 9 22 ?_))
    go_loopw [14] (fun iv wr => ∃ i : Nat, i ≤ rn ∧ iv = .int .i64 (i : Int) ∧ Below w.heap.size w wr ∧ Hid (q = fitL (kinds.drop i) (l.drop i))) (fun iv _ => rn - (intOf iv).toNat)
    case atStart => exact ⟨0, Nat.zero_le _, rfl, Below.refl _ _, Lib.hid HQ.out.symm⟩
    case round =>
      obtain ⟨i, hi, rfl, bw, HD⟩ := hrel
      by_cases hlt : i < rn
      · have hil : i < l.length := by have := HN.out.2; omega
        have hik : i < kinds.length := by have := HN.out.1; omega
        have hv := HTT.out.2.mono bw (Nat.le_refl _)
        have hk := HTT.out.1.mono bw (Nat.le_refl _)
        obtain ⟨vb, vo, rfl⟩ := hv.addr (by rw [vcells_length]; omega)
        obtain ⟨kb, ko, rfl⟩ := hk.addr (by rw [bcells_length]; omega)
        obtain ⟨q0, q1, q2⟩ := hv.vat hil
        have y0 : wr.cell? ⟨kb, ko + i, none⟩ = some (.int .u8 ((kinds[i].toNat : Nat) : Int)) := hk.at (bcells_get _ _ hik)
        have HD2 : Hid (q = (fitV kinds[i] l[i] && fitL (kinds.drop (i + 1)) (l.drop (i + 1)))) := Lib.hid (by
          rw [HD.out, List.drop_eq_getElem_cons hil, List.drop_eq_getElem_cons hik]; rfl)
        generalize kinds[i] = u at y0 HD2
        generalize l[i] = v at q0 q1 q2 HD2
        obtain ⟨k, n, s⟩ := v
        simp only at q0 q1 q2
        clear hil hik hv hk HD
        have zv := At.new wr #[.int .u8 k, .int .i64 n, .string s] 38
        have bA := bw.alloc bw.size (.cells #[.int .u8 k, .int .i64 n, .string s] 38)
        have y1 := Ext.cell ((Below.refl wr.heap.size wr).alloc (Nat.le_refl _) (.cells #[.int .u8 k, .int .i64 n, .string s] 38)) y0
        go_upto_region 6 with fail
        generalize wr.alloc (.cells #[.int .u8 k, .int .i64 n, .string s] 38) = wA at zv bA y1 ⊢
        generalize wr.heap.size = gv at zv ⊢
        clear q0 q1 q2 y0 bw
        have hun : ((u.toNat : Nat) : Int) ≤ 255 := by have := u.toNat_lt; omega
        have HU : Hid (fitV u ⟨k, n, s⟩ = (rightB ⟨k, n, s⟩ && (decide (k = 0) || decide (k = ((u.toNat : Nat) : Int))))) := Lib.hid rfl
        generalize ((u.toNat : Nat) : Int) = ui at y1 HU hun
        have HRT := Lib.hid (fun W => right_x k n s W)
        cases hR : rightB ⟨k, n, s⟩ with
        | false =>
          rw [hR] at HRT
          have hqf := HD2.out
          rw [HU.out, hR] at hqf
          obtain rfl : q = false := hqf
          clear HD2 HU hR
          refine mix_startE 17 rfl (by kernel_rfl) ?_
          intro xq hxq
          replace zv := At.mono zv hxq
          replace bA := Below.next bA hxq
          replace y1 := Ext.cell hxq y1
          clear hxq
          refine mix_quiet Keeps.ext 0 rfl (by kernel_rfl) rfl ?_
          intro ι U hne hU
          have hcw0 := fun ii => (hU ii).cell y1
          have hcw1 := fun ii => (At.mono zv (hU ii)).cell 0 rfl
          have hcw2 := fun ii => (At.mono zv (hU ii)).cell 1 rfl
          have hcw3 := fun ii => (At.mono zv (hU ii)).cell 2 rfl
          go_big_quiet_op
          clear hU hne hcw0 hcw1 hcw2 hcw3 U ι
          show wpAnyM _ _ _ _ _ _ _ _ _
          refine mix_any 1 rfl (by kernel_rfl) rfl ?_
          go_wp2_with (first | (at_make; refine Stop.un ?_) | (at_builtin; refine Stop.un ?_) | (with_reducible refine Stop.conv 22 9 ?_) | (with_reducible refine Stop.conv 9 22 ?_))
          refine (HRT.out _).mono ?_
          rintro e wq1 ⟨rfl, bq1⟩
          go_wp2_with (first | (at_make; refine Stop.un ?_) | (at_builtin; refine Stop.un ?_) | (with_reducible refine Stop.conv 22 9 ?_) | (with_reducible refine Stop.conv 9 22 ?_))
          refine MixPost.mk bq1 ?_
          replace zv := At.mono zv bq1
          replace bA := Below.next bA bq1
          replace y1 := Ext.cell bq1 y1
          clear bq1
          refine mix_quiet Keeps.ext 2 rfl (by kernel_rfl) rfl ?_
          intro ι U hne hU
          go_big_quiet_op
          clear hU hne U ι
          show wpAnyM _ _ _ _ _ _ _ _ _
          refine mix_quiet Keeps.ext 3 rfl (by kernel_rfl) rfl ?_
          intro ι U hne hU
          go_big_quiet_op
          clear hU hne U ι
          show wpAnyM _ _ _ _ _ _ _ _ _
          refine mix_skip Keeps.ext 4 rfl (by kernel_rfl) rfl ?_
          go_big_quiet_skip
          refine wpQuiet_nil ?_
          show wpAnyM _ _ _ _ _ _ _ _ _
          refine mix_skip Keeps.ext 5 rfl (by kernel_rfl) rfl ?_
          go_big_quiet_skip
          refine wpQuiet_nil ?_
          show wpAnyM _ _ _ _ _ _ _ _ _
          refine mix_skip Keeps.ext 6 rfl (by kernel_rfl) rfl ?_
          go_big_quiet_skip
          refine wpQuiet_nil ?_
          show wpAnyM _ _ _ _ _ _ _ _ _
          refine mix_skip Keeps.ext 7 rfl (by kernel_rfl) rfl ?_
          go_big_quiet_skip
          refine wpQuiet_nil ?_
          show wpAnyM _ _ _ _ _ _ _ _ _
          refine mix_skip Keeps.ext 8 rfl (by kernel_rfl) rfl ?_
          go_big_quiet_skip
          refine wpQuiet_nil ?_
          show wpAnyM _ _ _ _ _ _ _ _ _
          refine mix_skip Keeps.ext 9 rfl (by kernel_rfl) rfl ?_
          go_big_quiet_skip
          refine wpQuiet_nil ?_
          show wpAnyM _ _ _ _ _ _ _ _ _
          refine mix_skip Keeps.ext 10 rfl (by kernel_rfl) rfl ?_
          go_big_quiet_skip
          refine wpQuiet_nil ?_
          show wpAnyM _ _ _ _ _ _ _ _ _
          refine mix_skip Keeps.ext 11 rfl (by kernel_rfl) rfl ?_
          go_big_quiet_skip
          refine wpQuiet_nil ?_
          show wpAnyM _ _ _ _ _ _ _ _ _
          refine mix_skip Keeps.ext 12 rfl (by kernel_rfl) rfl ?_
          go_big_quiet_skip
          refine wpQuiet_nil ?_
          show wpAnyM _ _ _ _ _ _ _ _ _
          refine mix_skip Keeps.ext 13 rfl (by kernel_rfl) rfl ?_
          go_big_quiet_skip
          refine wpQuiet_nil ?_
          show wpAnyM _ _ _ _ _ _ _ _ _
          refine mix_skip Keeps.ext 14 rfl (by kernel_rfl) rfl ?_
          go_big_quiet_skip
          refine wpQuiet_nil ?_
          show wpAnyM _ _ _ _ _ _ _ _ _
          refine mix_skip Keeps.ext 15 rfl (by kernel_rfl) rfl ?_
          go_big_quiet_skip
          refine wpQuiet_nil ?_
          show wpAnyM _ _ _ _ _ _ _ _ _
          refine mix_quiet Keeps.ext 16 rfl (by kernel_rfl) rfl ?_
          intro ι U hne hU
          go_big_quiet_op
          clear hU hne U ι
          show wpAnyM _ _ _ _ _ _ _ _ _
          refine mix_end (by kernel_rfl) ?_
          go_wp2_with (first | (at_make; refine Stop.un ?_) | (at_builtin; refine Stop.un ?_) | (with_reducible refine Stop.conv 22 9 ?_) | (with_reducible refine Stop.conv 9 22 ?_))
          go_ret
          exact ⟨by first | rfl | simp, bA⟩
        | true =>
          rw [hR] at HRT
          by_cases hk0 : k = 0
          ·
            subst hk0
            have HD3 : Hid (q = fitL (kinds.drop (i + 1)) (l.drop (i + 1))) := Lib.hid (by rw [HD2.out, HU.out, hR]; simp)
            clear HD2 HU hR
            refine mix_startE 17 rfl (by kernel_rfl) ?_
            intro xq hxq
            replace zv := At.mono zv hxq
            replace bA := Below.next bA hxq
            replace y1 := Ext.cell hxq y1
            clear hxq
            refine mix_quiet Keeps.ext 0 rfl (by kernel_rfl) rfl ?_
            intro ι U hne hU
            have hcw0 := fun ii => (hU ii).cell y1
            have hcw1 := fun ii => (At.mono zv (hU ii)).cell 0 rfl
            have hcw2 := fun ii => (At.mono zv (hU ii)).cell 1 rfl
            have hcw3 := fun ii => (At.mono zv (hU ii)).cell 2 rfl
            go_big_quiet_op
            clear hU hne hcw0 hcw1 hcw2 hcw3 U ι
            show wpAnyM _ _ _ _ _ _ _ _ _
            refine mix_any 1 rfl (by kernel_rfl) rfl ?_
            go_wp2_with (first | (at_make; refine Stop.un ?_) | (at_builtin; refine Stop.un ?_) | (with_reducible refine Stop.conv 22 9 ?_) | (with_reducible refine Stop.conv 9 22 ?_))
            refine (HRT.out _).mono ?_
            rintro e wq2 ⟨rfl, bq2⟩
            go_wp2_with (first | (at_make; refine Stop.un ?_) | (at_builtin; refine Stop.un ?_) | (with_reducible refine Stop.conv 22 9 ?_) | (with_reducible refine Stop.conv 9 22 ?_))
            refine MixPost.mk bq2 ?_
            replace zv := At.mono zv bq2
            replace bA := Below.next bA bq2
            replace y1 := Ext.cell bq2 y1
            clear bq2
            refine mix_quiet Keeps.ext 2 rfl (by kernel_rfl) rfl ?_
            intro ι U hne hU
            go_big_quiet_op
            clear hU hne U ι
            show wpAnyM _ _ _ _ _ _ _ _ _
            refine mix_quiet Keeps.ext 3 rfl (by kernel_rfl) rfl ?_
            intro ι U hne hU
            go_big_quiet_op
            clear hU hne U ι
            show wpAnyM _ _ _ _ _ _ _ _ _
            refine mix_quiet Keeps.ext 4 rfl (by kernel_rfl) rfl ?_
            intro ι U hne hU
            go_big_quiet_op
            clear hU hne U ι
            show wpAnyM _ _ _ _ _ _ _ _ _
            refine mix_quiet Keeps.ext 5 rfl (by kernel_rfl) rfl ?_
            intro ι U hne hU
            have hcw0 := fun ii => (hU ii).cell y1
            have hcw1 := fun ii => (At.mono zv (hU ii)).cell 0 rfl
            have hcw2 := fun ii => (At.mono zv (hU ii)).cell 1 rfl
            have hcw3 := fun ii => (At.mono zv (hU ii)).cell 2 rfl
            go_big_quiet_op
            clear hU hne hcw0 hcw1 hcw2 hcw3 U ι
            show wpAnyM _ _ _ _ _ _ _ _ _
            refine mix_quiet Keeps.ext 6 rfl (by kernel_rfl) rfl ?_
            intro ι U hne hU
            go_big_quiet_op
            clear hU hne U ι
            show wpAnyM _ _ _ _ _ _ _ _ _
            refine mix_quiet Keeps.ext 7 rfl (by kernel_rfl) rfl ?_
            intro ι U hne hU
            go_big_quiet_op
            clear hU hne U ι
            show wpAnyM _ _ _ _ _ _ _ _ _
            refine mix_skip Keeps.ext 8 rfl (by kernel_rfl) rfl ?_
            go_big_quiet_skip
            refine wpQuiet_nil ?_
            show wpAnyM _ _ _ _ _ _ _ _ _
            refine mix_skip Keeps.ext 9 rfl (by kernel_rfl) rfl ?_
            go_big_quiet_skip
            refine wpQuiet_nil ?_
            show wpAnyM _ _ _ _ _ _ _ _ _
            refine mix_skip Keeps.ext 10 rfl (by kernel_rfl) rfl ?_
            go_big_quiet_skip
            refine wpQuiet_nil ?_
            show wpAnyM _ _ _ _ _ _ _ _ _
            refine mix_skip Keeps.ext 11 rfl (by kernel_rfl) rfl ?_
            go_big_quiet_skip
            refine wpQuiet_nil ?_
            show wpAnyM _ _ _ _ _ _ _ _ _
            refine mix_skip Keeps.ext 12 rfl (by kernel_rfl) rfl ?_
            go_big_quiet_skip
            refine wpQuiet_nil ?_
            show wpAnyM _ _ _ _ _ _ _ _ _
            refine mix_skip Keeps.ext 13 rfl (by kernel_rfl) rfl ?_
            go_big_quiet_skip
            refine wpQuiet_nil ?_
            show wpAnyM _ _ _ _ _ _ _ _ _
            refine mix_skip Keeps.ext 14 rfl (by kernel_rfl) rfl ?_
            go_big_quiet_skip
            refine wpQuiet_nil ?_
            show wpAnyM _ _ _ _ _ _ _ _ _
            refine mix_quiet Keeps.ext 15 rfl (by kernel_rfl) rfl ?_
            intro ι U hne hU
            go_big_quiet_op
            clear hU hne U ι
            show wpAnyM _ _ _ _ _ _ _ _ _
            refine mix_quiet Keeps.ext 16 rfl (by kernel_rfl) rfl ?_
            intro ι U hne hU
            go_big_quiet_op
            clear hU hne U ι
            show wpAnyM _ _ _ _ _ _ _ _ _
            refine mix_end (by kernel_rfl) ?_
            go_wp2_with (first | (at_make; refine Stop.un ?_) | (at_builtin; refine Stop.un ?_) | (with_reducible refine Stop.conv 22 9 ?_) | (with_reducible refine Stop.conv 9 22 ?_))
            go_roundw
            case rel => exact ⟨i + 1, by omega, by go_num, bA, HD3⟩
            case measure => simp [intOf]; omega
          ·
            have hkn : (k != 0) = true := by simpa using hk0
            by_cases hku : k = ui
            ·
              have HD3 : Hid (q = fitL (kinds.drop (i + 1)) (l.drop (i + 1))) := Lib.hid (by rw [HD2.out, HU.out, hR, decide_eq_true hku]; simp)
              subst hku
              clear HD2 HU hR hk0
              refine mix_startE 17 rfl (by kernel_rfl) ?_
              intro xq hxq
              replace zv := At.mono zv hxq
              replace bA := Below.next bA hxq
              replace y1 := Ext.cell hxq y1
              clear hxq
              refine mix_quiet Keeps.ext 0 rfl (by kernel_rfl) rfl ?_
              intro ι U hne hU
              have hcw0 := fun ii => (hU ii).cell y1
              have hcw1 := fun ii => (At.mono zv (hU ii)).cell 0 rfl
              have hcw2 := fun ii => (At.mono zv (hU ii)).cell 1 rfl
              have hcw3 := fun ii => (At.mono zv (hU ii)).cell 2 rfl
              go_big_quiet_op
              clear hU hne hcw0 hcw1 hcw2 hcw3 U ι
              show wpAnyM _ _ _ _ _ _ _ _ _
              refine mix_any 1 rfl (by kernel_rfl) rfl ?_
              go_wp2_with (first | (at_make; refine Stop.un ?_) | (at_builtin; refine Stop.un ?_) | (with_reducible refine Stop.conv 22 9 ?_) | (with_reducible refine Stop.conv 9 22 ?_))
              refine (HRT.out _).mono ?_
              rintro e wq3 ⟨rfl, bq3⟩
              go_wp2_with (first | (at_make; refine Stop.un ?_) | (at_builtin; refine Stop.un ?_) | (with_reducible refine Stop.conv 22 9 ?_) | (with_reducible refine Stop.conv 9 22 ?_))
              refine MixPost.mk bq3 ?_
              replace zv := At.mono zv bq3
              replace bA := Below.next bA bq3
              replace y1 := Ext.cell bq3 y1
              clear bq3
              refine mix_quiet Keeps.ext 2 rfl (by kernel_rfl) rfl ?_
              intro ι U hne hU
              go_big_quiet_op
              clear hU hne U ι
              show wpAnyM _ _ _ _ _ _ _ _ _
              refine mix_quiet Keeps.ext 3 rfl (by kernel_rfl) rfl ?_
              intro ι U hne hU
              go_big_quiet_op
              clear hU hne U ι
              show wpAnyM _ _ _ _ _ _ _ _ _
              refine mix_quiet Keeps.ext 4 rfl (by kernel_rfl) rfl ?_
              intro ι U hne hU
              go_big_quiet_op
              clear hU hne U ι
              show wpAnyM _ _ _ _ _ _ _ _ _
              refine mix_quiet Keeps.ext 5 rfl (by kernel_rfl) rfl ?_
              intro ι U hne hU
              have hcw0 := fun ii => (hU ii).cell y1
              have hcw1 := fun ii => (At.mono zv (hU ii)).cell 0 rfl
              have hcw2 := fun ii => (At.mono zv (hU ii)).cell 1 rfl
              have hcw3 := fun ii => (At.mono zv (hU ii)).cell 2 rfl
              go_big_quiet_op
              clear hU hne hcw0 hcw1 hcw2 hcw3 U ι
              show wpAnyM _ _ _ _ _ _ _ _ _
              refine mix_quiet Keeps.ext 6 rfl (by kernel_rfl) rfl ?_
              intro ι U hne hU
              go_big_quiet_op
              clear hU hne U ι
              show wpAnyM _ _ _ _ _ _ _ _ _
              refine mix_quiet Keeps.ext 7 rfl (by kernel_rfl) rfl ?_
              intro ι U hne hU
              go_big_quiet_op
              clear hU hne U ι
              show wpAnyM _ _ _ _ _ _ _ _ _
              refine mix_quiet Keeps.ext 8 rfl (by kernel_rfl) rfl ?_
              intro ι U hne hU
              go_big_quiet_op
              clear hU hne U ι
              show wpAnyM _ _ _ _ _ _ _ _ _
              refine mix_quiet Keeps.ext 9 rfl (by kernel_rfl) rfl ?_
              intro ι U hne hU
              have hcw0 := fun ii => (hU ii).cell y1
              have hcw1 := fun ii => (At.mono zv (hU ii)).cell 0 rfl
              have hcw2 := fun ii => (At.mono zv (hU ii)).cell 1 rfl
              have hcw3 := fun ii => (At.mono zv (hU ii)).cell 2 rfl
              go_big_quiet_op
              clear hU hne hcw0 hcw1 hcw2 hcw3 U ι
              show wpAnyM _ _ _ _ _ _ _ _ _
              refine mix_quiet Keeps.ext 10 rfl (by kernel_rfl) rfl ?_
              intro ι U hne hU
              go_big_quiet_op
              clear hU hne U ι
              show wpAnyM _ _ _ _ _ _ _ _ _
              refine mix_quiet Keeps.ext 11 rfl (by kernel_rfl) rfl ?_
              intro ι U hne hU
              go_big_quiet_op
              clear hU hne U ι
              show wpAnyM _ _ _ _ _ _ _ _ _
              refine mix_quiet Keeps.ext 12 rfl (by kernel_rfl) rfl ?_
              intro ι U hne hU
              go_big_quiet_op
              clear hU hne U ι
              show wpAnyM _ _ _ _ _ _ _ _ _
              refine mix_quiet Keeps.ext 13 rfl (by kernel_rfl) rfl ?_
              intro ι U hne hU
              have hcw0 := fun ii => (hU ii).cell y1
              have hcw1 := fun ii => (At.mono zv (hU ii)).cell 0 rfl
              have hcw2 := fun ii => (At.mono zv (hU ii)).cell 1 rfl
              have hcw3 := fun ii => (At.mono zv (hU ii)).cell 2 rfl
              go_big_quiet_op
              clear hU hne hcw0 hcw1 hcw2 hcw3 U ι
              show wpAnyM _ _ _ _ _ _ _ _ _
              refine mix_quiet Keeps.ext 14 rfl (by kernel_rfl) rfl ?_
              intro ι U hne hU
              go_big_quiet_op
              clear hU hne U ι
              show wpAnyM _ _ _ _ _ _ _ _ _
              refine mix_quiet Keeps.ext 15 rfl (by kernel_rfl) rfl ?_
              intro ι U hne hU
              go_big_quiet_op
              clear hU hne U ι
              show wpAnyM _ _ _ _ _ _ _ _ _
              refine mix_quiet Keeps.ext 16 rfl (by kernel_rfl) rfl ?_
              intro ι U hne hU
              go_big_quiet_op
              clear hU hne U ι
              show wpAnyM _ _ _ _ _ _ _ _ _
              refine mix_end (by kernel_rfl) ?_
              go_wp2_with (first | (at_make; refine Stop.un ?_) | (at_builtin; refine Stop.un ?_) | (with_reducible refine Stop.conv 22 9 ?_) | (with_reducible refine Stop.conv 9 22 ?_))
              go_roundw
              case rel => exact ⟨i + 1, by omega, by go_num, bA, HD3⟩
              case measure => simp [intOf]; omega
            ·
              have hkb : (k != ui) = true := by simpa using hku
              have hqf := HD2.out
              rw [HU.out, hR, decide_eq_false hku, decide_eq_false hk0] at hqf
              obtain rfl : q = false := hqf
              clear HD2 HU hR hk0 hku
              refine mix_startE 17 rfl (by kernel_rfl) ?_
              intro xq hxq
              replace zv := At.mono zv hxq
              replace bA := Below.next bA hxq
              replace y1 := Ext.cell hxq y1
              clear hxq
              refine mix_quiet Keeps.ext 0 rfl (by kernel_rfl) rfl ?_
              intro ι U hne hU
              have hcw0 := fun ii => (hU ii).cell y1
              have hcw1 := fun ii => (At.mono zv (hU ii)).cell 0 rfl
              have hcw2 := fun ii => (At.mono zv (hU ii)).cell 1 rfl
              have hcw3 := fun ii => (At.mono zv (hU ii)).cell 2 rfl
              go_big_quiet_op
              clear hU hne hcw0 hcw1 hcw2 hcw3 U ι
              show wpAnyM _ _ _ _ _ _ _ _ _
              refine mix_any 1 rfl (by kernel_rfl) rfl ?_
              go_wp2_with (first | (at_make; refine Stop.un ?_) | (at_builtin; refine Stop.un ?_) | (with_reducible refine Stop.conv 22 9 ?_) | (with_reducible refine Stop.conv 9 22 ?_))
              refine (HRT.out _).mono ?_
              rintro e wq4 ⟨rfl, bq4⟩
              go_wp2_with (first | (at_make; refine Stop.un ?_) | (at_builtin; refine Stop.un ?_) | (with_reducible refine Stop.conv 22 9 ?_) | (with_reducible refine Stop.conv 9 22 ?_))
              refine MixPost.mk bq4 ?_
              replace zv := At.mono zv bq4
              replace bA := Below.next bA bq4
              replace y1 := Ext.cell bq4 y1
              clear bq4
              refine mix_quiet Keeps.ext 2 rfl (by kernel_rfl) rfl ?_
              intro ι U hne hU
              go_big_quiet_op
              clear hU hne U ι
              show wpAnyM _ _ _ _ _ _ _ _ _
              refine mix_quiet Keeps.ext 3 rfl (by kernel_rfl) rfl ?_
              intro ι U hne hU
              go_big_quiet_op
              clear hU hne U ι
              show wpAnyM _ _ _ _ _ _ _ _ _
              refine mix_quiet Keeps.ext 4 rfl (by kernel_rfl) rfl ?_
              intro ι U hne hU
              go_big_quiet_op
              clear hU hne U ι
              show wpAnyM _ _ _ _ _ _ _ _ _
              refine mix_quiet Keeps.ext 5 rfl (by kernel_rfl) rfl ?_
              intro ι U hne hU
              have hcw0 := fun ii => (hU ii).cell y1
              have hcw1 := fun ii => (At.mono zv (hU ii)).cell 0 rfl
              have hcw2 := fun ii => (At.mono zv (hU ii)).cell 1 rfl
              have hcw3 := fun ii => (At.mono zv (hU ii)).cell 2 rfl
              go_big_quiet_op
              clear hU hne hcw0 hcw1 hcw2 hcw3 U ι
              show wpAnyM _ _ _ _ _ _ _ _ _
              refine mix_quiet Keeps.ext 6 rfl (by kernel_rfl) rfl ?_
              intro ι U hne hU
              go_big_quiet_op
              clear hU hne U ι
              show wpAnyM _ _ _ _ _ _ _ _ _
              refine mix_quiet Keeps.ext 7 rfl (by kernel_rfl) rfl ?_
              intro ι U hne hU
              go_big_quiet_op
              clear hU hne U ι
              show wpAnyM _ _ _ _ _ _ _ _ _
              refine mix_quiet Keeps.ext 8 rfl (by kernel_rfl) rfl ?_
              intro ι U hne hU
              go_big_quiet_op
              clear hU hne U ι
              show wpAnyM _ _ _ _ _ _ _ _ _
              refine mix_quiet Keeps.ext 9 rfl (by kernel_rfl) rfl ?_
              intro ι U hne hU
              have hcw0 := fun ii => (hU ii).cell y1
              have hcw1 := fun ii => (At.mono zv (hU ii)).cell 0 rfl
              have hcw2 := fun ii => (At.mono zv (hU ii)).cell 1 rfl
              have hcw3 := fun ii => (At.mono zv (hU ii)).cell 2 rfl
              go_big_quiet_op
              clear hU hne hcw0 hcw1 hcw2 hcw3 U ι
              show wpAnyM _ _ _ _ _ _ _ _ _
              refine mix_quiet Keeps.ext 10 rfl (by kernel_rfl) rfl ?_
              intro ι U hne hU
              go_big_quiet_op
              clear hU hne U ι
              show wpAnyM _ _ _ _ _ _ _ _ _
              refine mix_quiet Keeps.ext 11 rfl (by kernel_rfl) rfl ?_
              intro ι U hne hU
              go_big_quiet_op
              clear hU hne U ι
              show wpAnyM _ _ _ _ _ _ _ _ _
              refine mix_quiet Keeps.ext 12 rfl (by kernel_rfl) rfl ?_
              intro ι U hne hU
              go_big_quiet_op
              clear hU hne U ι
              show wpAnyM _ _ _ _ _ _ _ _ _
              refine mix_quiet Keeps.ext 13 rfl (by kernel_rfl) rfl ?_
              intro ι U hne hU
              have hcw0 := fun ii => (hU ii).cell y1
              have hcw1 := fun ii => (At.mono zv (hU ii)).cell 0 rfl
              have hcw2 := fun ii => (At.mono zv (hU ii)).cell 1 rfl
              have hcw3 := fun ii => (At.mono zv (hU ii)).cell 2 rfl
              go_big_quiet_op
              clear hU hne hcw0 hcw1 hcw2 hcw3 U ι
              show wpAnyM _ _ _ _ _ _ _ _ _
              refine mix_quiet Keeps.ext 14 rfl (by kernel_rfl) rfl ?_
              intro ι U hne hU
              go_big_quiet_op
              clear hU hne U ι
              show wpAnyM _ _ _ _ _ _ _ _ _
              refine mix_quiet Keeps.ext 15 rfl (by kernel_rfl) rfl ?_
              intro ι U hne hU
              go_big_quiet_op
              clear hU hne U ι
              show wpAnyM _ _ _ _ _ _ _ _ _
              refine mix_quiet Keeps.ext 16 rfl (by kernel_rfl) rfl ?_
              intro ι U hne hU
              go_big_quiet_op
              clear hU hne U ι
              show wpAnyM _ _ _ _ _ _ _ _ _
              refine mix_end (by kernel_rfl) ?_
              go_wp2_with (first | (at_make; refine Stop.un ?_) | (at_builtin; refine Stop.un ?_) | (with_reducible refine Stop.conv 22 9 ?_) | (with_reducible refine Stop.conv 9 22 ?_))
              go_ret
              exact ⟨by first | rfl | simp, bA⟩
      · obtain rfl : i = rn := by omega
        have hqt := HD.out
        rw [List.drop_of_length_le (by have h1 := HN.out.1; have h2 := HN.out.2; omega), List.drop_of_length_le (by have h1 := HN.out.1; have h2 := HN.out.2; omega)] at hqt
        obtain rfl : q = true := hqt
        clear HD
        go_wp2_with (first | (at_make; refine Stop.un ?_) | (at_builtin; refine Stop.un ?_) | (with_reducible refine Stop.conv 22 9 ?_) | (with_reducible refine Stop.conv 9 22 ?_))
        go_ret
        exact ⟨by first | rfl | simp, bw⟩
  · have hnb : ((rn : Int) != (kn : Int)) = true := by simp; omega
    have hqf : q = false := by
      cases q with
      | false => rfl
      | true => exact absurd (fitL_len _ _ HQ.out) (by rw [HN.out.1, HN.out.2]; exact hn)
    subst hqf
    clear hn hl e1 h1 hcs
    go_enter Try.func25, Try.ntmps25
    go_wp2_with (first | (at_make; refine Stop.un ?_) | (at_builtin; refine Stop.un ?_) | (with_reducible refine Stop.conv 22 9 ?_) | (with_reducible refine Stop.conv 9 22 ?_))
    go_ret
    exact ⟨rfl, Below.refl _ _⟩
theorem gfit1_any (gb : Nat) (ka : Option Addr) (kn kc : Nat) (kinds : List UInt8) (r : Rw) (w : World)
    (z : At w gb #[.slice ka kn kc] 22) (h1 : Cs w ka (bcells kinds)) (e1 : kinds.length = kn) (m1 : kn ≤ kc) (c1 : kc ≤ maxLen) (h2 : RowOk w r) :
    Calls Try.prog 24 #[.slice r.a r.n r.cap, .pointer (some ⟨gb, 0, none⟩)] w (fun e w' => e = .returned (.bool (!fitL kinds r.l)) ∧ Below w.heap.size w w') := by
  have H := Lib.hid (gfits_any ka kn kc kinds r w h1 e1 m1 c1 h2)
  have x0 := z.cell 0 rfl
  clear h1 e1 h2
  go_enter Try.func24, Try.ntmps24
  go_wp2_with (first | (at_make; refine Stop.un ?_) | (at_builtin; refine Stop.un ?_) | (with_reducible refine Stop.conv 22 9 ?_) | (with_reducible refine Stop.conv 9 22 ?_))
  refine H.out.mono ?_
  rintro e w1 ⟨rfl, b⟩
  go_wp2_with (first | (at_make; refine Stop.un ?_) | (at_builtin; refine Stop.un ?_) | (with_reducible refine Stop.conv 22 9 ?_) | (with_reducible refine Stop.conv 9 22 ?_))
  go_ret
  exact ⟨by first | rfl | simp, b⟩
set_option maxRecDepth 100000 in
set_option maxHeartbeats 4000000 in
theorem gindexf_any (gb : Nat) (ka : Option Addr) (kn kc : Nat) (kinds : List UInt8) (ra : Option Addr) (rn rc : Nat) (rows : List Rw) (w : World)
    (z : At w gb #[.slice ka kn kc] 22) (h1 : Cs w ka (bcells kinds)) (e1 : kinds.length = kn) (m1 : kn ≤ kc) (c1 : kc ≤ maxLen)
    (t : Tab w ra rows) (e2 : rows.length = rn) (m2 : rn ≤ rc) (c2 : rc ≤ maxLen) :
    Calls Try.prog 37 #[.slice ra rn rc, .func (.func 24) #[] #[.pointer (some ⟨gb, 0, none⟩)]] w (fun e w' => ∃ i : Int, e = .returned (.int .i64 i) ∧ (0 ≤ i ↔ rows.all (fun r => fitL kinds r.l) = false) ∧ Below w.heap.size w w') := by
  unfold maxLen at c2
  have HF := Lib.hid (fun (r : Rw) W z h1 h2 => gfit1_any gb ka kn kc kinds r W z h1 e1 m1 c1 h2)
  have HN := Lib.hid e2
  have HTT := Lib.hid (And.intro z (And.intro h1 t))
  clear e1 e2 z h1 t
  go_enter Try.func37, Try.ntmps37
  go_wp2_with (first | (at_make; refine Stop.un ?_) | (at_builtin; refine Stop.un ?_) | (with_reducible refine Stop.conv 22 9 ?_) | (with_reducible refine Stop.conv 9 22 ?_))
  go_loopw [8] (fun c wr => ∃ j : Nat, j ≤ rn ∧ c = .int .i64 (j : Int) ∧ Below w.heap.size w wr ∧ Hid ((rows.take j).all (fun r => fitL kinds r.l) = true)) (fun c _ => rn - (intOf c).toNat)
  case atStart => exact ⟨0, Nat.zero_le _, rfl, Below.refl _ _, Lib.hid (by simp)⟩
  case round =>
    obtain ⟨j, hj, rfl, bw, HX⟩ := hrel
    by_cases hlt : j < rn
    · have hjl : j < rows.length := by have := HN.out; omega
      have t2 := HTT.out.2.2.mono bw
      obtain ⟨b, o, rfl⟩ := t2.cs.addr (by rw [rwcells_length]; omega)
      have x0 := t2.at hjl
      have HF1 := Lib.hid (HF.out rows[j] wr (HTT.out.1.mono bw) (HTT.out.2.1.mono bw (Nat.le_refl _)) (t2.ok _ (List.getElem_mem _)))
      have HB : Hid (fitL kinds rows[j].l = false → rows.all (fun r => fitL kinds r.l) = false) := Lib.hid (fun h => by
        rw [List.all_eq_false]
        exact ⟨rows[j], List.getElem_mem _, by rw [h]; decide⟩)
      have HG : Hid (fitL kinds rows[j].l = true → (rows.take (j + 1)).all (fun r => fitL kinds r.l) = true) := Lib.hid (fun h => by
        rw [List.take_succ_eq_append_getElem hjl, List.all_append, HX.out]; simp [h])
      have hrle := (t2.ok rows[j] (List.getElem_mem _)).le
      have hrmx : rows[j].cap ≤ 9223372036854775807 := (t2.ok rows[j] (List.getElem_mem _)).max
      generalize rows[j] = r at x0 HF1 HB HG hrle hrmx
      have xl := lt_cell x0
      clear t2 hjl
      cases hq : fitL kinds r.l with
      | false =>
        have HR := Lib.hid (HB.out hq)
        rw [hq] at HF1
        clear HB HG hq HX
        go_wp2_with (first | (at_make; refine Stop.un ?_) | (at_builtin; refine Stop.un ?_) | (with_reducible refine Stop.conv 22 9 ?_) | (with_reducible refine Stop.conv 9 22 ?_))
        refine HF1.out.mono ?_
        rintro e w1 ⟨rfl, b1⟩
        have bw2 := bw.next b1
        clear HF1 b1
        go_wp2_with (first | (at_make; refine Stop.un ?_) | (at_builtin; refine Stop.un ?_) | (with_reducible refine Stop.conv 22 9 ?_) | (with_reducible refine Stop.conv 9 22 ?_))
        go_ret
        exact ⟨_, rfl, ⟨fun _ => HR.out, fun _ => by omega⟩, bw2⟩
      | true =>
        have HX2 := Lib.hid (HG.out hq)
        rw [hq] at HF1
        clear HB HG hq HX
        go_wp2_with (first | (at_make; refine Stop.un ?_) | (at_builtin; refine Stop.un ?_) | (with_reducible refine Stop.conv 22 9 ?_) | (with_reducible refine Stop.conv 9 22 ?_))
        refine HF1.out.mono ?_
        rintro e w1 ⟨rfl, b1⟩
        have bw2 := bw.next b1
        clear HF1 b1 x0 bw
        go_wp2_with (first | (at_make; refine Stop.un ?_) | (at_builtin; refine Stop.un ?_) | (with_reducible refine Stop.conv 22 9 ?_) | (with_reducible refine Stop.conv 9 22 ?_))
        go_roundw
        case rel => exact ⟨j + 1, by omega, by go_num, bw2, HX2⟩
        case measure => simp [intOf]; omega
    · have hno := HX.out
      rw [List.take_of_length_le (by have := HN.out; omega)] at hno
      have HNO := Lib.hid hno
      clear HX hno
      go_wp2_with (first | (at_make; refine Stop.un ?_) | (at_builtin; refine Stop.un ?_) | (with_reducible refine Stop.conv 22 9 ?_) | (with_reducible refine Stop.conv 9 22 ?_))
      go_ret
      exact ⟨_, rfl, ⟨fun h => by omega, fun h => by rw [HNO.out] at h; cases h⟩, bw⟩
theorem gcontainsf_any (gb : Nat) (ka : Option Addr) (kn kc : Nat) (kinds : List UInt8) (ra : Option Addr) (rn rc : Nat) (rows : List Rw) (w : World)
    (z : At w gb #[.slice ka kn kc] 22) (h1 : Cs w ka (bcells kinds)) (e1 : kinds.length = kn) (m1 : kn ≤ kc) (c1 : kc ≤ maxLen)
    (t : Tab w ra rows) (e2 : rows.length = rn) (m2 : rn ≤ rc) (c2 : rc ≤ maxLen) :
    Calls Try.prog 23 #[.slice ra rn rc, .func (.func 24) #[] #[.pointer (some ⟨gb, 0, none⟩)]] w (fun e w' => e = .returned (.bool (!rows.all (fun r => fitL kinds r.l))) ∧ Below w.heap.size w w') := by
  have H := Lib.hid (gindexf_any gb ka kn kc kinds ra rn rc rows w z h1 e1 m1 c1 t e2 m2 c2)
  obtain ⟨q, hq⟩ : ∃ q, rows.all (fun r => fitL kinds r.l) = q := ⟨_, rfl⟩
  rw [hq] at H
  rw [hq]
  clear z h1 e1 t e2 hq
  go_enter Try.func23, Try.ntmps23
  go_wp2_with (first | (at_make; refine Stop.un ?_) | (at_builtin; refine Stop.un ?_) | (with_reducible refine Stop.conv 22 9 ?_) | (with_reducible refine Stop.conv 9 22 ?_))
  refine H.out.mono ?_
  rintro e w1 ⟨i, rfl, hi, b1⟩
  by_cases h0 : 0 ≤ i
  · obtain rfl : q = false := hi.1 h0
    clear hi
    go_wp2_with (first | (at_make; refine Stop.un ?_) | (at_builtin; refine Stop.un ?_) | (with_reducible refine Stop.conv 22 9 ?_) | (with_reducible refine Stop.conv 9 22 ?_))
    go_ret
    exact ⟨by simp [h0], b1⟩
  · obtain rfl : q = true := by
      cases q with
      | true => rfl
      | false => exact absurd (hi.2 rfl) h0
    clear hi
    go_wp2_with (first | (at_make; refine Stop.un ?_) | (at_builtin; refine Stop.un ?_) | (with_reducible refine Stop.conv 22 9 ?_) | (with_reducible refine Stop.conv 9 22 ?_))
    go_ret
    exact ⟨by simp [h0], b1⟩
end Go.Proofs.Ytbiniecjenencaa
