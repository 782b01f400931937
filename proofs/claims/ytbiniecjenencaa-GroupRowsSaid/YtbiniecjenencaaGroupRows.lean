/- GroupRows: the walk of the reference's Rows, and of the law itself: for every set that came in it returns true. -/
import Derived.Test.YtbiniecjenencaaGRef
import Derived.Test.YtbiniecjenencaaGRefP
set_option linter.unusedVariables false
set_option linter.unusedSimpArgs false
set_option maxRecDepth 10000
namespace Go.Proofs.Ytbiniecjenencaa
open Go.RowKit
/-! The reference's Rows. -/
set_option maxRecDepth 100000 in
set_option maxHeartbeats 64000000 in
theorem rrows_any (ka : Option Addr) (kn kc : Nat) (kinds : List UInt8) (ra : Option Addr) (rn rc : Nat) (rows : List Rw) (ba : Option Addr) (bn bc : Nat) (bs : List Int) (ga : Option Addr) (gn gc : Nat) (ags : List Ag) (w : World)
    (h1 : Cs w ka (bcells kinds)) (e1 : kinds.length = kn) (m1 : kn ≤ kc) (c1 : kc ≤ maxLen)
    (t : Tab w ra rows) (e2 : rows.length = rn) (m2 : rn ≤ rc) (c2 : rc ≤ maxLen) (s2 : rn ≤ 1000)
    (h3 : Cs w ba (icells bs)) (e3 : bs.length = bn) (m3 : bn ≤ bc) (c3 : bc ≤ maxLen) (s3 : bn ≤ 1000)
    (h4 : Cs w ga (agcells ags)) (e4 : ags.length = gn) (m4 : gn ≤ gc) (c4 : gc ≤ maxLen) (s4 : gn ≤ 1000) (hv : ∀ r ∈ rows, ∀ v ∈ r.l, inI v.n) :
    Calls Try.prog 21 #[.slice ka kn kc, .slice ra rn rc, .slice ba bn bc, .slice ga gn gc] w (RetGrp w (refB kinds (rows.map (·.l)) bs ags)) := by
  have HKD := Lib.hid (rkinds_any ka kn kc kinds ba bn bc bs ga gn gc ags w h1 e1 m1 c1 h3 e3 m3 c3 s3 h4 e4 m4 c4 s4)
  unfold maxLen at c1 c2 c3 c4
  have HN := Lib.hid (And.intro e1 (And.intro e2 (And.intro e3 (And.intro e4 hv))))
  have HTT := Lib.hid (And.intro h1 (And.intro t (And.intro h3 h4)))
  obtain ⟨res, hres⟩ : ∃ res, refB kinds (rows.map (·.l)) bs ags = res := ⟨_, rfl⟩
  rw [hres]
  have HRES := Lib.hid hres
  clear h1 t h3 h4 e1 e2 e3 e4 hv hres
  have HR0 : Hid (∀ w' (e : Int), res = (e, []) → Below w.heap.size w w' → RetGrp w res (.returned (.tuple #[.slice none 0 0, .int .i64 e])) w') := Lib.hid (fun w' e h b => ⟨none, 0, 0, [], by rw [h], OutM.nil b, by rw [h]; rfl⟩)
  go_enter Try.func21, Try.ntmps21
  go_wp2_with (first | (at_make; refine Stop.un ?_) | (at_builtin; refine Stop.un ?_) | (with_reducible refine Stop.conv 22 9 ?_) | (with_reducible refine Stop.conv 9 22 ?_))
  refine HKD.out.mono ?_
  rintro e wK ⟨ak, nk, ck, rfl, OK⟩
  have b0 := Own.below OK
  clear OK HKD
  by_cases hE : kindsE kinds bs ags = 0
  · have hEb : (kindsE kinds bs ags != 0) = false := by simpa using hE
    have HE0 := Lib.hid hE
    generalize kindsE kinds bs ags = E at hEb ⊢
    clear hE
    go_wp2_with (first | (at_make; refine Stop.un ?_) | (at_builtin; refine Stop.un ?_) | (with_reducible refine Stop.conv 22 9 ?_) | (with_reducible refine Stop.conv 9 22 ?_))
    clear hEb
    go_loopw [12] (fun iv wr => ∃ i : Nat, i ≤ rn ∧ iv = .int .i64 (i : Int) ∧ Below w.heap.size w wr ∧ Hid (∀ r ∈ rows.take i, fitL kinds r.l = true)) (fun iv _ => rn - (intOf iv).toNat)
    case atStart => exact ⟨0, Nat.zero_le _, rfl, b0, Lib.hid (fun r hr => by cases hr)⟩
    case round =>
      clear b0
      obtain ⟨i, hi, rfl, b0, HF⟩ := hrel
      by_cases hlt : i < rn
      · have hil : i < rows.length := by have := HN.out.2.1; omega
        have t2 := HTT.out.2.1.mono b0
        have hk := HTT.out.1.mono b0 (Nat.le_refl _)
        obtain ⟨b, o, rfl⟩ := t2.cs.addr (by rw [rwcells_length]; omega)
        have x0 := t2.at hil
        have o1 := t2.ok rows[i] (List.getElem_mem _)
        have HBAD : Hid (fitL kinds rows[i].l = false → res = (7, [])) := Lib.hid (fun h => by rw [← HRES.out]; exact ref_fit HE0.out (List.mem_map_of_mem (f := fun r : Rw => r.l) (List.getElem_mem hil)) h)
        have HGOOD : Hid (fitL kinds rows[i].l = true → ∀ r ∈ rows.take (i + 1), fitL kinds r.l = true) := Lib.hid (fun h r hr => by
          rw [List.take_succ_eq_append_getElem hil] at hr
          rcases List.mem_append.1 hr with h2 | h2
          · exact HF.out r h2
          · rw [List.mem_singleton.1 h2]; exact h)
        generalize rows[i] = r at x0 o1 HBAD HGOOD
        obtain ⟨va, vn, vc, l⟩ := r
        have hlen : l.length = vn := o1.len
        have hle : vn ≤ vc := o1.le
        have hmx : vc ≤ 9223372036854775807 := o1.max
        have hcs : Cs wr va (vcells l) := o1.cs
        simp only at x0 HBAD HGOOD
        have HC := Lib.hid (And.intro hcs (And.intro hk hlen))
        clear t2 o1 hcs hk hil hlen HF
        by_cases hn : vn = kn
        · have hnb : ((vn : Int) != (kn : Int)) = false := by simp [hn]
          subst hn
          obtain ⟨wo, hwo⟩ : ∃ wo, wr = wo := ⟨_, rfl⟩
          rw [hwo] at b0 x0 HC ⊢
          clear hwo
          go_wp2_with (first | (at_make; refine Stop.un ?_) | (at_builtin; refine Stop.un ?_) | (with_reducible refine Stop.conv 22 9 ?_) | (with_reducible refine Stop.conv 9 22 ?_))
          go_loopw [13] (fun kv wr => ∃ q : Nat, q ≤ vn ∧ kv = .int .i64 (q : Int) ∧ Below wo.heap.size wo wr ∧ Hid (fitL kinds l = fitL (kinds.drop q) (l.drop q))) (fun kv _ => vn - (intOf kv).toNat)
          case atStart => exact ⟨0, Nat.zero_le _, rfl, Below.refl _ _, Lib.hid rfl⟩
          case round =>
            obtain ⟨q, hq, rfl, bI, HD⟩ := hrel
            by_cases hqn : q < vn
            · have hil : q < l.length := by have := HC.out.2.2; omega
              have hik : q < kinds.length := by have := HN.out.1; omega
              have hcs := HC.out.1.mono bI (Nat.le_refl _)
              have hk := HC.out.2.1.mono bI (Nat.le_refl _)
              obtain ⟨vb, vo, rfl⟩ := hcs.addr (by rw [vcells_length]; omega)
              obtain ⟨kb, ko, rfl⟩ := hk.addr (by rw [bcells_length]; omega)
              obtain ⟨q0, q1, q2⟩ := hcs.vat hil
              have y0 : wr.cell? ⟨kb, ko + q, none⟩ = some (.int .u8 ((kinds[q].toNat : Nat) : Int)) := hk.at (bcells_get _ _ hik)
              have HD2 : Hid (fitL kinds l = (fitV kinds[q] l[q] && fitL (kinds.drop (q + 1)) (l.drop (q + 1)))) := Lib.hid (by
                rw [HD.out, List.drop_eq_getElem_cons hil, List.drop_eq_getElem_cons hik]; rfl)
              generalize kinds[q] = u at y0 HD2
              generalize l[q] = v at q0 q1 q2 HD2
              obtain ⟨k, n, s⟩ := v
              simp only at q0 q1 q2
              have x1 := Ext.cell bI x0
              clear hil hik hcs hk HD
              have zv := At.new wr #[.int .u8 k, .int .i64 n, .string s] 38
              have y1 := Ext.cell ((Below.refl wr.heap.size wr).alloc (Nat.le_refl _) (.cells #[.int .u8 k, .int .i64 n, .string s] 38)) y0
              have bA := bI.alloc bI.size (.cells #[.int .u8 k, .int .i64 n, .string s] 38)
              go_upto_region 13 with fail
              generalize wr.alloc (.cells #[.int .u8 k, .int .i64 n, .string s] 38) = wA at zv y1 bA ⊢
              generalize wr.heap.size = gv at zv ⊢
              clear q0 q1 q2 y0 x1 bI
              have hun : ((u.toNat : Nat) : Int) ≤ 255 := by have := u.toNat_lt; omega
              have HU : Hid (fitV u ⟨k, n, s⟩ = (rightB ⟨k, n, s⟩ && (decide (k = 0) || decide (k = ((u.toNat : Nat) : Int))))) := Lib.hid rfl
              generalize ((u.toNat : Nat) : Int) = ui at y1 HU hun
              have HRT := Lib.hid (fun W => rright_any ⟨k, n, s⟩ W)
              cases hR : rightB ⟨k, n, s⟩ with
              | false =>
                rw [hR] at HRT
                have hqf : fitL kinds l = false := by rw [HD2.out, HU.out, hR]; rfl
                clear HD2 HU hR
                refine mix_startE 17 rfl (by kernel_rfl) ?_
                intro xq hxq
                replace zv := At.mono zv hxq
                replace bA := Below.next bA hxq
                replace y1 := Ext.cell hxq y1
                clear hxq
                refine mix_quiet Keeps.ext 0 rfl (by kernel_rfl) rfl ?_
                intro ι U hne hU
                have hcw0 := fun ii => (hU ii).cell y1
                have hcw1 := fun ii => (At.mono zv (hU ii)).cell 0 rfl
                have hcw2 := fun ii => (At.mono zv (hU ii)).cell 1 rfl
                have hcw3 := fun ii => (At.mono zv (hU ii)).cell 2 rfl
                go_big_quiet_op
                clear hU hne hcw0 hcw1 hcw2 hcw3 U ι
                show wpAnyM _ _ _ _ _ _ _ _ _
                refine mix_any 1 rfl (by kernel_rfl) rfl ?_
                go_wp2_with (first | (at_make; refine Stop.un ?_) | (at_builtin; refine Stop.un ?_) | (with_reducible refine Stop.conv 22 9 ?_) | (with_reducible refine Stop.conv 9 22 ?_))
                refine (HRT.out _).mono ?_
                rintro e wq1 ⟨rfl, bq1⟩
                go_wp2_with (first | (at_make; refine Stop.un ?_) | (at_builtin; refine Stop.un ?_) | (with_reducible refine Stop.conv 22 9 ?_) | (with_reducible refine Stop.conv 9 22 ?_))
                refine MixPost.mk bq1 ?_
                replace zv := At.mono zv bq1
                replace bA := Below.next bA bq1
                replace y1 := Ext.cell bq1 y1
                clear bq1
                refine mix_quiet Keeps.ext 2 rfl (by kernel_rfl) rfl ?_
                intro ι U hne hU
                go_big_quiet_op
                clear hU hne U ι
                show wpAnyM _ _ _ _ _ _ _ _ _
                refine mix_quiet Keeps.ext 3 rfl (by kernel_rfl) rfl ?_
                intro ι U hne hU
                go_big_quiet_op
                clear hU hne U ι
                show wpAnyM _ _ _ _ _ _ _ _ _
                refine mix_skip Keeps.ext 4 rfl (by kernel_rfl) rfl ?_
                go_big_quiet_skip
                refine wpQuiet_nil ?_
                show wpAnyM _ _ _ _ _ _ _ _ _
                refine mix_skip Keeps.ext 5 rfl (by kernel_rfl) rfl ?_
                go_big_quiet_skip
                refine wpQuiet_nil ?_
                show wpAnyM _ _ _ _ _ _ _ _ _
                refine mix_skip Keeps.ext 6 rfl (by kernel_rfl) rfl ?_
                go_big_quiet_skip
                refine wpQuiet_nil ?_
                show wpAnyM _ _ _ _ _ _ _ _ _
                refine mix_skip Keeps.ext 7 rfl (by kernel_rfl) rfl ?_
                go_big_quiet_skip
                refine wpQuiet_nil ?_
                show wpAnyM _ _ _ _ _ _ _ _ _
                refine mix_skip Keeps.ext 8 rfl (by kernel_rfl) rfl ?_
                go_big_quiet_skip
                refine wpQuiet_nil ?_
                show wpAnyM _ _ _ _ _ _ _ _ _
                refine mix_skip Keeps.ext 9 rfl (by kernel_rfl) rfl ?_
                go_big_quiet_skip
                refine wpQuiet_nil ?_
                show wpAnyM _ _ _ _ _ _ _ _ _
                refine mix_skip Keeps.ext 10 rfl (by kernel_rfl) rfl ?_
                go_big_quiet_skip
                refine wpQuiet_nil ?_
                show wpAnyM _ _ _ _ _ _ _ _ _
                refine mix_skip Keeps.ext 11 rfl (by kernel_rfl) rfl ?_
                go_big_quiet_skip
                refine wpQuiet_nil ?_
                show wpAnyM _ _ _ _ _ _ _ _ _
                refine mix_skip Keeps.ext 12 rfl (by kernel_rfl) rfl ?_
                go_big_quiet_skip
                refine wpQuiet_nil ?_
                show wpAnyM _ _ _ _ _ _ _ _ _
                refine mix_skip Keeps.ext 13 rfl (by kernel_rfl) rfl ?_
                go_big_quiet_skip
                refine wpQuiet_nil ?_
                show wpAnyM _ _ _ _ _ _ _ _ _
                refine mix_skip Keeps.ext 14 rfl (by kernel_rfl) rfl ?_
                go_big_quiet_skip
                refine wpQuiet_nil ?_
                show wpAnyM _ _ _ _ _ _ _ _ _
                refine mix_skip Keeps.ext 15 rfl (by kernel_rfl) rfl ?_
                go_big_quiet_skip
                refine wpQuiet_nil ?_
                show wpAnyM _ _ _ _ _ _ _ _ _
                refine mix_quiet Keeps.ext 16 rfl (by kernel_rfl) rfl ?_
                intro ι U hne hU
                go_big_quiet_op
                clear hU hne U ι
                show wpAnyM _ _ _ _ _ _ _ _ _
                refine mix_end (by kernel_rfl) ?_
                have HR7 := Lib.hid (HBAD.out hqf)
                have bB := b0.next bA
                clear HBAD HGOOD hqf
                go_wp2_with (first | (at_make; refine Stop.un ?_) | (at_builtin; refine Stop.un ?_) | (with_reducible refine Stop.conv 22 9 ?_) | (with_reducible refine Stop.conv 9 22 ?_))
                exact bodyPost_ret (v := .tuple #[.slice none 0 0, .int .i64 (7)]) (by simp [results, Try.results21, go_sem]) rfl (HR0.out _ (7) HR7.out (bB))
              | true =>
                rw [hR] at HRT
                by_cases hk0 : k = 0
                ·
                  subst hk0
                  have HD3 : Hid (fitL kinds l = fitL (kinds.drop (q + 1)) (l.drop (q + 1))) := Lib.hid (by rw [HD2.out, HU.out, hR]; simp)
                  clear HD2 HU hR
                  refine mix_startE 17 rfl (by kernel_rfl) ?_
                  intro xq hxq
                  replace zv := At.mono zv hxq
                  replace bA := Below.next bA hxq
                  replace y1 := Ext.cell hxq y1
                  clear hxq
                  refine mix_quiet Keeps.ext 0 rfl (by kernel_rfl) rfl ?_
                  intro ι U hne hU
                  have hcw0 := fun ii => (hU ii).cell y1
                  have hcw1 := fun ii => (At.mono zv (hU ii)).cell 0 rfl
                  have hcw2 := fun ii => (At.mono zv (hU ii)).cell 1 rfl
                  have hcw3 := fun ii => (At.mono zv (hU ii)).cell 2 rfl
                  go_big_quiet_op
                  clear hU hne hcw0 hcw1 hcw2 hcw3 U ι
                  show wpAnyM _ _ _ _ _ _ _ _ _
                  refine mix_any 1 rfl (by kernel_rfl) rfl ?_
                  go_wp2_with (first | (at_make; refine Stop.un ?_) | (at_builtin; refine Stop.un ?_) | (with_reducible refine Stop.conv 22 9 ?_) | (with_reducible refine Stop.conv 9 22 ?_))
                  refine (HRT.out _).mono ?_
                  rintro e wq2 ⟨rfl, bq2⟩
                  go_wp2_with (first | (at_make; refine Stop.un ?_) | (at_builtin; refine Stop.un ?_) | (with_reducible refine Stop.conv 22 9 ?_) | (with_reducible refine Stop.conv 9 22 ?_))
                  refine MixPost.mk bq2 ?_
                  replace zv := At.mono zv bq2
                  replace bA := Below.next bA bq2
                  replace y1 := Ext.cell bq2 y1
                  clear bq2
                  refine mix_quiet Keeps.ext 2 rfl (by kernel_rfl) rfl ?_
                  intro ι U hne hU
                  go_big_quiet_op
                  clear hU hne U ι
                  show wpAnyM _ _ _ _ _ _ _ _ _
                  refine mix_quiet Keeps.ext 3 rfl (by kernel_rfl) rfl ?_
                  intro ι U hne hU
                  go_big_quiet_op
                  clear hU hne U ι
                  show wpAnyM _ _ _ _ _ _ _ _ _
                  refine mix_quiet Keeps.ext 4 rfl (by kernel_rfl) rfl ?_
                  intro ι U hne hU
                  go_big_quiet_op
                  clear hU hne U ι
                  show wpAnyM _ _ _ _ _ _ _ _ _
                  refine mix_quiet Keeps.ext 5 rfl (by kernel_rfl) rfl ?_
                  intro ι U hne hU
                  have hcw0 := fun ii => (hU ii).cell y1
                  have hcw1 := fun ii => (At.mono zv (hU ii)).cell 0 rfl
                  have hcw2 := fun ii => (At.mono zv (hU ii)).cell 1 rfl
                  have hcw3 := fun ii => (At.mono zv (hU ii)).cell 2 rfl
                  go_big_quiet_op
                  clear hU hne hcw0 hcw1 hcw2 hcw3 U ι
                  show wpAnyM _ _ _ _ _ _ _ _ _
                  refine mix_quiet Keeps.ext 6 rfl (by kernel_rfl) rfl ?_
                  intro ι U hne hU
                  go_big_quiet_op
                  clear hU hne U ι
                  show wpAnyM _ _ _ _ _ _ _ _ _
                  refine mix_quiet Keeps.ext 7 rfl (by kernel_rfl) rfl ?_
                  intro ι U hne hU
                  go_big_quiet_op
                  clear hU hne U ι
                  show wpAnyM _ _ _ _ _ _ _ _ _
                  refine mix_skip Keeps.ext 8 rfl (by kernel_rfl) rfl ?_
                  go_big_quiet_skip
                  refine wpQuiet_nil ?_
                  show wpAnyM _ _ _ _ _ _ _ _ _
                  refine mix_skip Keeps.ext 9 rfl (by kernel_rfl) rfl ?_
                  go_big_quiet_skip
                  refine wpQuiet_nil ?_
                  show wpAnyM _ _ _ _ _ _ _ _ _
                  refine mix_skip Keeps.ext 10 rfl (by kernel_rfl) rfl ?_
                  go_big_quiet_skip
                  refine wpQuiet_nil ?_
                  show wpAnyM _ _ _ _ _ _ _ _ _
                  refine mix_skip Keeps.ext 11 rfl (by kernel_rfl) rfl ?_
                  go_big_quiet_skip
                  refine wpQuiet_nil ?_
                  show wpAnyM _ _ _ _ _ _ _ _ _
                  refine mix_skip Keeps.ext 12 rfl (by kernel_rfl) rfl ?_
                  go_big_quiet_skip
                  refine wpQuiet_nil ?_
                  show wpAnyM _ _ _ _ _ _ _ _ _
                  refine mix_skip Keeps.ext 13 rfl (by kernel_rfl) rfl ?_
                  go_big_quiet_skip
                  refine wpQuiet_nil ?_
                  show wpAnyM _ _ _ _ _ _ _ _ _
                  refine mix_skip Keeps.ext 14 rfl (by kernel_rfl) rfl ?_
                  go_big_quiet_skip
                  refine wpQuiet_nil ?_
                  show wpAnyM _ _ _ _ _ _ _ _ _
                  refine mix_quiet Keeps.ext 15 rfl (by kernel_rfl) rfl ?_
                  intro ι U hne hU
                  go_big_quiet_op
                  clear hU hne U ι
                  show wpAnyM _ _ _ _ _ _ _ _ _
                  refine mix_quiet Keeps.ext 16 rfl (by kernel_rfl) rfl ?_
                  intro ι U hne hU
                  go_big_quiet_op
                  clear hU hne U ι
                  show wpAnyM _ _ _ _ _ _ _ _ _
                  refine mix_end (by kernel_rfl) ?_
                  go_wp2_with (first | (at_make; refine Stop.un ?_) | (at_builtin; refine Stop.un ?_) | (with_reducible refine Stop.conv 22 9 ?_) | (with_reducible refine Stop.conv 9 22 ?_))
                  clear zv y1
                  go_roundw
                  case rel => exact ⟨q + 1, by omega, by go_num, bA, HD3⟩
                  case measure => simp [intOf]; omega
                ·
                  have hkn : (k != 0) = true := by simpa using hk0
                  by_cases hku : k = ui
                  ·
                    have HD3 : Hid (fitL kinds l = fitL (kinds.drop (q + 1)) (l.drop (q + 1))) := Lib.hid (by rw [HD2.out, HU.out, hR, decide_eq_true hku]; simp)
                    subst hku
                    clear HD2 HU hR hk0
                    refine mix_startE 17 rfl (by kernel_rfl) ?_
                    intro xq hxq
                    replace zv := At.mono zv hxq
                    replace bA := Below.next bA hxq
                    replace y1 := Ext.cell hxq y1
                    clear hxq
                    refine mix_quiet Keeps.ext 0 rfl (by kernel_rfl) rfl ?_
                    intro ι U hne hU
                    have hcw0 := fun ii => (hU ii).cell y1
                    have hcw1 := fun ii => (At.mono zv (hU ii)).cell 0 rfl
                    have hcw2 := fun ii => (At.mono zv (hU ii)).cell 1 rfl
                    have hcw3 := fun ii => (At.mono zv (hU ii)).cell 2 rfl
                    go_big_quiet_op
                    clear hU hne hcw0 hcw1 hcw2 hcw3 U ι
                    show wpAnyM _ _ _ _ _ _ _ _ _
                    refine mix_any 1 rfl (by kernel_rfl) rfl ?_
                    go_wp2_with (first | (at_make; refine Stop.un ?_) | (at_builtin; refine Stop.un ?_) | (with_reducible refine Stop.conv 22 9 ?_) | (with_reducible refine Stop.conv 9 22 ?_))
                    refine (HRT.out _).mono ?_
                    rintro e wq3 ⟨rfl, bq3⟩
                    go_wp2_with (first | (at_make; refine Stop.un ?_) | (at_builtin; refine Stop.un ?_) | (with_reducible refine Stop.conv 22 9 ?_) | (with_reducible refine Stop.conv 9 22 ?_))
                    refine MixPost.mk bq3 ?_
                    replace zv := At.mono zv bq3
                    replace bA := Below.next bA bq3
                    replace y1 := Ext.cell bq3 y1
                    clear bq3
                    refine mix_quiet Keeps.ext 2 rfl (by kernel_rfl) rfl ?_
                    intro ι U hne hU
                    go_big_quiet_op
                    clear hU hne U ι
                    show wpAnyM _ _ _ _ _ _ _ _ _
                    refine mix_quiet Keeps.ext 3 rfl (by kernel_rfl) rfl ?_
                    intro ι U hne hU
                    go_big_quiet_op
                    clear hU hne U ι
                    show wpAnyM _ _ _ _ _ _ _ _ _
                    refine mix_quiet Keeps.ext 4 rfl (by kernel_rfl) rfl ?_
                    intro ι U hne hU
                    go_big_quiet_op
                    clear hU hne U ι
                    show wpAnyM _ _ _ _ _ _ _ _ _
                    refine mix_quiet Keeps.ext 5 rfl (by kernel_rfl) rfl ?_
                    intro ι U hne hU
                    have hcw0 := fun ii => (hU ii).cell y1
                    have hcw1 := fun ii => (At.mono zv (hU ii)).cell 0 rfl
                    have hcw2 := fun ii => (At.mono zv (hU ii)).cell 1 rfl
                    have hcw3 := fun ii => (At.mono zv (hU ii)).cell 2 rfl
                    go_big_quiet_op
                    clear hU hne hcw0 hcw1 hcw2 hcw3 U ι
                    show wpAnyM _ _ _ _ _ _ _ _ _
                    refine mix_quiet Keeps.ext 6 rfl (by kernel_rfl) rfl ?_
                    intro ι U hne hU
                    go_big_quiet_op
                    clear hU hne U ι
                    show wpAnyM _ _ _ _ _ _ _ _ _
                    refine mix_quiet Keeps.ext 7 rfl (by kernel_rfl) rfl ?_
                    intro ι U hne hU
                    go_big_quiet_op
                    clear hU hne U ι
                    show wpAnyM _ _ _ _ _ _ _ _ _
                    refine mix_quiet Keeps.ext 8 rfl (by kernel_rfl) rfl ?_
                    intro ι U hne hU
                    go_big_quiet_op
                    clear hU hne U ι
                    show wpAnyM _ _ _ _ _ _ _ _ _
                    refine mix_quiet Keeps.ext 9 rfl (by kernel_rfl) rfl ?_
                    intro ι U hne hU
                    have hcw0 := fun ii => (hU ii).cell y1
                    have hcw1 := fun ii => (At.mono zv (hU ii)).cell 0 rfl
                    have hcw2 := fun ii => (At.mono zv (hU ii)).cell 1 rfl
                    have hcw3 := fun ii => (At.mono zv (hU ii)).cell 2 rfl
                    go_big_quiet_op
                    clear hU hne hcw0 hcw1 hcw2 hcw3 U ι
                    show wpAnyM _ _ _ _ _ _ _ _ _
                    refine mix_quiet Keeps.ext 10 rfl (by kernel_rfl) rfl ?_
                    intro ι U hne hU
                    go_big_quiet_op
                    clear hU hne U ι
                    show wpAnyM _ _ _ _ _ _ _ _ _
                    refine mix_quiet Keeps.ext 11 rfl (by kernel_rfl) rfl ?_
                    intro ι U hne hU
                    go_big_quiet_op
                    clear hU hne U ι
                    show wpAnyM _ _ _ _ _ _ _ _ _
                    refine mix_quiet Keeps.ext 12 rfl (by kernel_rfl) rfl ?_
                    intro ι U hne hU
                    go_big_quiet_op
                    clear hU hne U ι
                    show wpAnyM _ _ _ _ _ _ _ _ _
                    refine mix_quiet Keeps.ext 13 rfl (by kernel_rfl) rfl ?_
                    intro ι U hne hU
                    have hcw0 := fun ii => (hU ii).cell y1
                    have hcw1 := fun ii => (At.mono zv (hU ii)).cell 0 rfl
                    have hcw2 := fun ii => (At.mono zv (hU ii)).cell 1 rfl
                    have hcw3 := fun ii => (At.mono zv (hU ii)).cell 2 rfl
                    go_big_quiet_op
                    clear hU hne hcw0 hcw1 hcw2 hcw3 U ι
                    show wpAnyM _ _ _ _ _ _ _ _ _
                    refine mix_quiet Keeps.ext 14 rfl (by kernel_rfl) rfl ?_
                    intro ι U hne hU
                    go_big_quiet_op
                    clear hU hne U ι
                    show wpAnyM _ _ _ _ _ _ _ _ _
                    refine mix_quiet Keeps.ext 15 rfl (by kernel_rfl) rfl ?_
                    intro ι U hne hU
                    go_big_quiet_op
                    clear hU hne U ι
                    show wpAnyM _ _ _ _ _ _ _ _ _
                    refine mix_quiet Keeps.ext 16 rfl (by kernel_rfl) rfl ?_
                    intro ι U hne hU
                    go_big_quiet_op
                    clear hU hne U ι
                    show wpAnyM _ _ _ _ _ _ _ _ _
                    refine mix_end (by kernel_rfl) ?_
                    go_wp2_with (first | (at_make; refine Stop.un ?_) | (at_builtin; refine Stop.un ?_) | (with_reducible refine Stop.conv 22 9 ?_) | (with_reducible refine Stop.conv 9 22 ?_))
                    clear zv y1
                    go_roundw
                    case rel => exact ⟨q + 1, by omega, by go_num, bA, HD3⟩
                    case measure => simp [intOf]; omega
                  ·
                    have hkb : (k != ui) = true := by simpa using hku
                    have hqf : fitL kinds l = false := by rw [HD2.out, HU.out, hR, decide_eq_false hku, decide_eq_false hk0]; rfl
                    clear HD2 HU hR hk0 hku
                    refine mix_startE 17 rfl (by kernel_rfl) ?_
                    intro xq hxq
                    replace zv := At.mono zv hxq
                    replace bA := Below.next bA hxq
                    replace y1 := Ext.cell hxq y1
                    clear hxq
                    refine mix_quiet Keeps.ext 0 rfl (by kernel_rfl) rfl ?_
                    intro ι U hne hU
                    have hcw0 := fun ii => (hU ii).cell y1
                    have hcw1 := fun ii => (At.mono zv (hU ii)).cell 0 rfl
                    have hcw2 := fun ii => (At.mono zv (hU ii)).cell 1 rfl
                    have hcw3 := fun ii => (At.mono zv (hU ii)).cell 2 rfl
                    go_big_quiet_op
                    clear hU hne hcw0 hcw1 hcw2 hcw3 U ι
                    show wpAnyM _ _ _ _ _ _ _ _ _
                    refine mix_any 1 rfl (by kernel_rfl) rfl ?_
                    go_wp2_with (first | (at_make; refine Stop.un ?_) | (at_builtin; refine Stop.un ?_) | (with_reducible refine Stop.conv 22 9 ?_) | (with_reducible refine Stop.conv 9 22 ?_))
                    refine (HRT.out _).mono ?_
                    rintro e wq4 ⟨rfl, bq4⟩
                    go_wp2_with (first | (at_make; refine Stop.un ?_) | (at_builtin; refine Stop.un ?_) | (with_reducible refine Stop.conv 22 9 ?_) | (with_reducible refine Stop.conv 9 22 ?_))
                    refine MixPost.mk bq4 ?_
                    replace zv := At.mono zv bq4
                    replace bA := Below.next bA bq4
                    replace y1 := Ext.cell bq4 y1
                    clear bq4
                    refine mix_quiet Keeps.ext 2 rfl (by kernel_rfl) rfl ?_
                    intro ι U hne hU
                    go_big_quiet_op
                    clear hU hne U ι
                    show wpAnyM _ _ _ _ _ _ _ _ _
                    refine mix_quiet Keeps.ext 3 rfl (by kernel_rfl) rfl ?_
                    intro ι U hne hU
                    go_big_quiet_op
                    clear hU hne U ι
                    show wpAnyM _ _ _ _ _ _ _ _ _
                    refine mix_quiet Keeps.ext 4 rfl (by kernel_rfl) rfl ?_
                    intro ι U hne hU
                    go_big_quiet_op
                    clear hU hne U ι
                    show wpAnyM _ _ _ _ _ _ _ _ _
                    refine mix_quiet Keeps.ext 5 rfl (by kernel_rfl) rfl ?_
                    intro ι U hne hU
                    have hcw0 := fun ii => (hU ii).cell y1
                    have hcw1 := fun ii => (At.mono zv (hU ii)).cell 0 rfl
                    have hcw2 := fun ii => (At.mono zv (hU ii)).cell 1 rfl
                    have hcw3 := fun ii => (At.mono zv (hU ii)).cell 2 rfl
                    go_big_quiet_op
                    clear hU hne hcw0 hcw1 hcw2 hcw3 U ι
                    show wpAnyM _ _ _ _ _ _ _ _ _
                    refine mix_quiet Keeps.ext 6 rfl (by kernel_rfl) rfl ?_
                    intro ι U hne hU
                    go_big_quiet_op
                    clear hU hne U ι
                    show wpAnyM _ _ _ _ _ _ _ _ _
                    refine mix_quiet Keeps.ext 7 rfl (by kernel_rfl) rfl ?_
                    intro ι U hne hU
                    go_big_quiet_op
                    clear hU hne U ι
                    show wpAnyM _ _ _ _ _ _ _ _ _
                    refine mix_quiet Keeps.ext 8 rfl (by kernel_rfl) rfl ?_
                    intro ι U hne hU
                    go_big_quiet_op
                    clear hU hne U ι
                    show wpAnyM _ _ _ _ _ _ _ _ _
                    refine mix_quiet Keeps.ext 9 rfl (by kernel_rfl) rfl ?_
                    intro ι U hne hU
                    have hcw0 := fun ii => (hU ii).cell y1
                    have hcw1 := fun ii => (At.mono zv (hU ii)).cell 0 rfl
                    have hcw2 := fun ii => (At.mono zv (hU ii)).cell 1 rfl
                    have hcw3 := fun ii => (At.mono zv (hU ii)).cell 2 rfl
                    go_big_quiet_op
                    clear hU hne hcw0 hcw1 hcw2 hcw3 U ι
                    show wpAnyM _ _ _ _ _ _ _ _ _
                    refine mix_quiet Keeps.ext 10 rfl (by kernel_rfl) rfl ?_
                    intro ι U hne hU
                    go_big_quiet_op
                    clear hU hne U ι
                    show wpAnyM _ _ _ _ _ _ _ _ _
                    refine mix_quiet Keeps.ext 11 rfl (by kernel_rfl) rfl ?_
                    intro ι U hne hU
                    go_big_quiet_op
                    clear hU hne U ι
                    show wpAnyM _ _ _ _ _ _ _ _ _
                    refine mix_quiet Keeps.ext 12 rfl (by kernel_rfl) rfl ?_
                    intro ι U hne hU
                    go_big_quiet_op
                    clear hU hne U ι
                    show wpAnyM _ _ _ _ _ _ _ _ _
                    refine mix_quiet Keeps.ext 13 rfl (by kernel_rfl) rfl ?_
                    intro ι U hne hU
                    have hcw0 := fun ii => (hU ii).cell y1
                    have hcw1 := fun ii => (At.mono zv (hU ii)).cell 0 rfl
                    have hcw2 := fun ii => (At.mono zv (hU ii)).cell 1 rfl
                    have hcw3 := fun ii => (At.mono zv (hU ii)).cell 2 rfl
                    go_big_quiet_op
                    clear hU hne hcw0 hcw1 hcw2 hcw3 U ι
                    show wpAnyM _ _ _ _ _ _ _ _ _
                    refine mix_quiet Keeps.ext 14 rfl (by kernel_rfl) rfl ?_
                    intro ι U hne hU
                    go_big_quiet_op
                    clear hU hne U ι
                    show wpAnyM _ _ _ _ _ _ _ _ _
                    refine mix_quiet Keeps.ext 15 rfl (by kernel_rfl) rfl ?_
                    intro ι U hne hU
                    go_big_quiet_op
                    clear hU hne U ι
                    show wpAnyM _ _ _ _ _ _ _ _ _
                    refine mix_quiet Keeps.ext 16 rfl (by kernel_rfl) rfl ?_
                    intro ι U hne hU
                    go_big_quiet_op
                    clear hU hne U ι
                    show wpAnyM _ _ _ _ _ _ _ _ _
                    refine mix_end (by kernel_rfl) ?_
                    have HR7 := Lib.hid (HBAD.out hqf)
                    have bB := b0.next bA
                    clear HBAD HGOOD hqf
                    go_wp2_with (first | (at_make; refine Stop.un ?_) | (at_builtin; refine Stop.un ?_) | (with_reducible refine Stop.conv 22 9 ?_) | (with_reducible refine Stop.conv 9 22 ?_))
                    exact bodyPost_ret (v := .tuple #[.slice none 0 0, .int .i64 (7)]) (by simp [results, Try.results21, go_sem]) rfl (HR0.out _ (7) HR7.out (bB))
            · obtain rfl : q = vn := by omega
              have HG2 := Lib.hid (HGOOD.out (by
                rw [HD.out, List.drop_of_length_le (by have h1 := HC.out.2.2; have h2 := HN.out.1; omega), List.drop_of_length_le (by have h1 := HC.out.2.2; have h2 := HN.out.1; omega)]
                rfl))
              have bB := b0.next bI
              clear HBAD HGOOD HD HC x0 bI b0
              go_wp2_with (first | (at_make; refine Stop.un ?_) | (at_builtin; refine Stop.un ?_) | (with_reducible refine Stop.conv 22 9 ?_) | (with_reducible refine Stop.conv 9 22 ?_))
              go_roundw
              case rel => exact ⟨i + 1, by omega, by go_num, bB, HG2⟩
              case measure => simp [intOf]; omega
        · have hnb : ((vn : Int) != (kn : Int)) = true := by simp; omega
          have HR7 := Lib.hid (HBAD.out (by
            cases hq : fitL kinds l with
            | false => rfl
            | true => exact absurd (fitL_len _ _ hq) (by rw [HC.out.2.2, HN.out.1]; exact hn)))
          clear hn HBAD HGOOD HC
          go_wp2_with (first | (at_make; refine Stop.un ?_) | (at_builtin; refine Stop.un ?_) | (with_reducible refine Stop.conv 22 9 ?_) | (with_reducible refine Stop.conv 9 22 ?_))
          exact bodyPost_ret (v := .tuple #[.slice none 0 0, .int .i64 (7)]) (by simp [results, Try.results21, go_sem]) rfl (HR0.out _ (7) HR7.out (b0))
      · obtain rfl : i = rn := by omega
        have hFA : ∀ r ∈ rows, fitL kinds r.l = true := fun r hr => HF.out r (by rw [List.take_of_length_le (by have := HN.out.2.1; omega)]; exact hr)
        have hkn : ∀ r ∈ rows, r.n = kn := fun r hr => by
          have h1 := fitL_len _ _ (hFA r hr)
          have h2 := (HTT.out.2.1.ok r hr).len
          have h3 := HN.out.1
          omega
        obtain ⟨hk1, hk2, hk3, hk4⟩ := kinds_ok HE0.out
        rw [HN.out.2.2.1] at hk3
        rw [HN.out.2.2.2.1] at hk4
        have HCOL : Hid (∀ r ∈ rows, ∀ c ∈ bs, 0 ≤ c ∧ c < r.n) := Lib.hid (fun r hr c hc => by
          have := isCol_iff (hk1 c hc)
          rw [hkn r hr, ← HN.out.1]
          exact this)
        have HAGS : Hid (∀ x ∈ ags, (1 ≤ x.op ∧ x.op ≤ 5) ∧ (x.op = 1 ∨ ∃ cc : Nat, x.col = (cc : Int) ∧ ∀ r ∈ rows, cc < r.n)) := Lib.hid (fun x hx => by
          have h1 := hk2 x hx
          have h2 := agB_col h1
          unfold agB at h1
          by_cases ho : x.op = 1
          · exact ⟨by omega, .inl ho⟩
          · rw [if_neg ho, Bool.and_eq_true, Bool.and_eq_true, decide_eq_true_eq, decide_eq_true_eq] at h1
            have h3 := h2.resolve_left ho
            refine ⟨by omega, .inr ⟨x.col.toNat, by omega, fun r hr => ?_⟩⟩
            have h4 := hkn r hr
            have h5 := HN.out.1
            omega)
        have HREF : Hid (res = if (headsB bs (rows.map (·.l))).any (badB bs ags (rows.map (·.l))) = true then (220, []) else (0, sortL (idKeys bs.length) ((headsB bs (rows.map (·.l))).map (outB bs ags (rows.map (·.l)))))) := Lib.hid (by
          rw [← HRES.out]
          exact ref_ok HE0.out (fun r hr => by
            obtain ⟨y, hy, rfl⟩ := List.mem_map.1 hr
            exact hFA y hy))
        clear hFA hkn hk1 hk2 HF HRES hlt HE0
        obtain ⟨wL, hwL⟩ : ∃ wL, wr = wL := ⟨_, rfl⟩
        rw [hwL] at b0 ⊢
        clear hwL
        go_upto_if 83 with fail
        go_cut [15] (fun hv wx => ∃ (ah : Option Addr) (N c : Nat) (hs : List Rw), hv = .slice ah N c ∧ N ≤ 1 ∧ OutM wL wx (.slice ah N c) N hs ∧ Hid (hs.map (·.l) = headsB bs []))
        case first =>
          by_cases hbn : bn = 0
          · have d1 : ((bn : Int) == 0) = true := by simpa using hbn
            have HB0 : Hid (headsB bs [] = [[]]) := Lib.hid (by
              have : bs = [] := List.eq_nil_of_length_eq_zero (by rw [HN.out.2.2.1]; exact hbn)
              unfold headsB
              rw [if_pos this]
              rfl)
            have ze := At.new wL #[] 38
            have M0 : OutM wL (wL.alloc (.cells #[] 38)) (.slice none 0 0) 0 [] := OutM.nil ((Below.refl wL.heap.size wL).alloc (Nat.le_refl _) (.cells #[] 38))
            clear hbn
            go_wp2_with (first | (at_make; refine Stop.un ?_) | (at_builtin; refine Stop.un ?_) | (with_reducible refine Stop.conv 22 9 ?_) | (with_reducible refine Stop.conv 9 22 ?_))
            refine Stop.mk (app_rw1 (r := ⟨some ⟨wL.heap.size, 0, none⟩, 0, 0, []⟩) wL _ _ rfl rfl M0.O rfl (by rw [World.size_alloc]; rfl) (by decide) ?_)
            intro a5 c5 w5 O5 g5 k5
            have M5 := M0.push (r := ⟨some ⟨wL.heap.size, 0, none⟩, 0, 0, []⟩) ⟨Cs.nil _ _, rfl, Nat.le_refl _, Nat.zero_le _, fun v hv => by cases hv⟩ (fun a ha => ⟨wL.heap.size, #[], 38, (Option.some.inj ha).symm, ze, by show 0 * 3 ≤ 0; omega⟩) (fun a ha => by
              obtain rfl := Option.some.inj ha
              exact ⟨Nat.le_refl _, ze.lt, fun e => by cases e⟩) O5 g5 k5
            clear O5 g5 k5 M0 ze
            go_wp2_with (first | (at_make; refine Stop.un ?_) | (at_builtin; refine Stop.un ?_) | (with_reducible refine Stop.conv 22 9 ?_) | (with_reducible refine Stop.conv 9 22 ?_))
            go_meet
            exact ⟨a5, 1, c5, _, rfl, Nat.le_refl _, M5, Lib.hid (by rw [HB0.out]; rfl)⟩
          · have d1 : ((bn : Int) == 0) = false := by simpa using hbn
            have HB0 : Hid (headsB bs [] = []) := Lib.hid (by
              have : ¬ bs = [] := fun e => hbn (by rw [← HN.out.2.2.1, e]; rfl)
              unfold headsB
              rw [if_neg this]
              rfl)
            clear hbn
            go_wp2_with (first | (at_make; refine Stop.un ?_) | (at_builtin; refine Stop.un ?_) | (with_reducible refine Stop.conv 22 9 ?_) | (with_reducible refine Stop.conv 9 22 ?_))
            go_meet
            exact ⟨none, 0, 0, [], rfl, by omega, OutM.nil (Below.refl _ _), Lib.hid (by rw [HB0.out]; rfl)⟩
        case rest =>
          obtain ⟨ah, N, c, hs, rfl, hN1, M, HH⟩ := hcut
          have HH0 : Hid (hs.map (·.l) = headsB bs ((rows.take 0).map (·.l))) := Lib.hid HH.out
          clear HH
          go_wp2_with (first | (at_make; refine Stop.un ?_) | (at_builtin; refine Stop.un ?_) | (with_reducible refine Stop.conv 22 9 ?_) | (with_reducible refine Stop.conv 9 22 ?_))
          go_loopw [16, 15] (fun iv hv wr => ∃ (j : Nat) (ah : Option Addr) (N c : Nat) (hs : List Rw), j ≤ i ∧ iv = .int .i64 (j : Int) ∧ hv = .slice ah N c ∧ N ≤ j + 1 ∧ OutM wL wr (.slice ah N c) N hs ∧ Hid (hs.map (·.l) = headsB bs ((rows.take j).map (·.l)))) (fun iv _ _ => i - (intOf iv).toNat)
          case atStart => exact ⟨0, ah, N, c, hs, Nat.zero_le _, rfl, rfl, by omega, M, HH0⟩
          case round =>
            clear M HH0 hN1
            obtain ⟨j, ah, N, c, hs, hj, rfl, rfl, hNj, M, HH⟩ := hrel
            by_cases hlt : j < i
            · have hjl : j < rows.length := by have := HN.out.2.1; omega
              have bL := b0.next (Own.below M.O)
              have t2 := HTT.out.2.1.mono bL
              obtain ⟨b, o, rfl⟩ := t2.cs.addr (by rw [rwcells_length]; omega)
              have x0 := t2.at hjl
              have o1 := t2.ok rows[j] (List.getElem_mem _)
              have HP := Lib.hid (rpart_any rows[j].a rows[j].n rows[j].cap rows[j].l ba bn bc bs wr o1 (HTT.out.2.2.1.mono bL (Nat.le_refl _)) HN.out.2.2.1 m3 (by unfold maxLen; omega) (by omega) (HCOL.out rows[j] (List.getElem_mem _)))
              have HKD := Lib.hid (hd_kind o1.kind bs)
              have HT : Hid (headsB bs ((rows.take (j + 1)).map (·.l)) = headStep bs (headsB bs ((rows.take j).map (·.l))) rows[j].l) := Lib.hid (by
                rw [List.take_succ_eq_append_getElem hjl, List.map_append]
                exact heads_snoc bs _ _)
              rw [← HH.out] at HT
              have HT1 := Lib.hid (fun (h : hdOf bs rows[j].l ∈ hs.map (·.l)) => HT.out.trans (head_in h))
              have HT2 := Lib.hid (fun (h : hdOf bs rows[j].l ∉ hs.map (·.l)) => HT.out.trans (head_new h))
              clear t2 o1 HT
              generalize rows[j] = r at x0 HP HKD HT1 HT2
              clear hjl
              generalize hdOf bs r.l = h at HP HKD HT1 HT2
              have HOL : Hid (wL.heap.size ≤ wr.heap.size ∧ ∀ q, (Value.slice ah N c).ownBlock = some q → q < wr.heap.size) := Lib.hid ⟨Own.le M.O, Own.lt M.O⟩
              have hlc := owns_le M.O.1
              have hmc : c ≤ 9223372036854775807 := owns_max M.O.1
              go_wp2_with (first | (at_make; refine Stop.un ?_) | (at_builtin; refine Stop.un ?_) | (with_reducible refine Stop.conv 22 9 ?_) | (with_reducible refine Stop.conv 9 22 ?_))
              refine HP.out.mono ?_
              rintro e w2 ⟨g, cg, rfl, OP⟩
              replace M := M.below (Own.below OP)
              clear HP bL x0
              have hlg := owns_le OP.1
              have hmg : cg ≤ 9223372036854775807 := owns_max OP.1
              go_wp2_with (first | (at_make; refine Stop.un ?_) | (at_builtin; refine Stop.un ?_) | (with_reducible refine Stop.conv 22 9 ?_) | (with_reducible refine Stop.conv 9 22 ?_))
              go_loopw [18] (fun kv wx => ∃ k : Nat, k ≤ N ∧ kv = .int .i64 (k : Int) ∧ OutM wL wx (.slice ah N c) N hs ∧ OwnV wr wx (.slice (some ⟨g, 0, none⟩) bn cg) bn h ∧ Hid (h ∉ (hs.take k).map (·.l))) (fun kv _ => N - (intOf kv).toNat)
              case atStart => exact ⟨0, Nat.zero_le _, rfl, M, OP, Lib.hid (by simp)⟩
              case round =>
                clear M OP
                obtain ⟨k, hk, rfl, M, OP, HK⟩ := hrel
                have hsl : hs.length = N := OwnRs.length M.O
                by_cases hkN : k < N
                · have hkl : k < hs.length := by omega
                  have cs := Own.cs M.O
                  obtain ⟨hb, ho, rfl⟩ := cs.addr (by rw [rwcells_length]; omega)
                  have y0 : wr.cell? ⟨hb, ho + k, none⟩ = some (.slice hs[k].a hs[k].n hs[k].cap) := cs.at (by simp [rwcells, hkl, Rw.sl])
                  have ok := (M.F hs[k] (List.getElem_mem _)).1
                  have HSM := Lib.hid (samerow_any hs[k].a hs[k].n hs[k].cap hs[k].l (some ⟨g, 0, none⟩) bn cg h _ ok.cs (Own.cs OP) ok.len (OwnV.length OP) ok.le hlg ok.max (by unfold maxLen; omega))
                  have HK2 : Hid (hs[k].l ≠ h → h ∉ (hs.take (k + 1)).map (·.l)) := Lib.hid (fun hne hm => by
                    rw [List.take_succ_eq_append_getElem hkl, List.map_append] at hm
                    rcases List.mem_append.1 hm with h1 | h1
                    · exact HK.out h1
                    · exact hne (List.mem_singleton.1 h1).symm)
                  have HK1 : Hid (hs[k].l = h → h ∈ hs.map (·.l)) := Lib.hid (fun he => he ▸ List.mem_map_of_mem (f := fun x : Rw => x.l) (List.getElem_mem hkl))
                  generalize hs[k] = hr at y0 HSM HK2 HK1
                  clear hkl cs ok hsl
                  go_wp2_with (first | (at_make; refine Stop.un ?_) | (at_builtin; refine Stop.un ?_) | (with_reducible refine Stop.conv 22 9 ?_) | (with_reducible refine Stop.conv 9 22 ?_))
                  refine HSM.out.mono ?_
                  rintro e w3 ⟨rfl, bt⟩
                  replace M := M.below bt
                  replace OP := Own.keep OP bt
                  clear bt HSM y0
                  by_cases hq : hr.l = h
                  · have hd : decide (hr.l = h) = true := decide_eq_true hq
                    have hkn : ((k : Int) == (N : Int)) = false := by simp; omega
                    have HT3 := Lib.hid (HT1.out (HK1.out hq)).symm
                    rw [hd]
                    clear hq HT1 HT2 HK1 HK2 HK HKD OP
                    go_wp2_with (first | (at_make; refine Stop.un ?_) | (at_builtin; refine Stop.un ?_) | (with_reducible refine Stop.conv 22 9 ?_) | (with_reducible refine Stop.conv 9 22 ?_))
                    go_roundw
                    case rel => exact ⟨j + 1, _, N, c, hs, by omega, by go_num, rfl, by omega, M, HT3⟩
                    case measure => simp [intOf]; omega
                  · have hd : decide (hr.l = h) = false := decide_eq_false hq
                    have HK3 := Lib.hid (HK2.out hq)
                    rw [hd]
                    clear hq HK1 HK2 HK
                    go_wp2_with (first | (at_make; refine Stop.un ?_) | (at_builtin; refine Stop.un ?_) | (with_reducible refine Stop.conv 22 9 ?_) | (with_reducible refine Stop.conv 9 22 ?_))
                    go_roundw
                    case rel => exact ⟨k + 1, by omega, by go_num, M, OP, HK3⟩
                    case measure => simp [intOf]; omega
                · obtain rfl : k = N := by omega
                  have hT := HT2.out (by
                    have h2 := HK.out
                    rwa [List.take_of_length_le (by omega)] at h2)
                  have ro := rw_ownG OP HKD.out
                  have fz : Fz _ ⟨some ⟨g, 0, none⟩, bn, cg, h⟩ := Fz.own OP
                  have HRB : Hid (∀ a, (⟨some ⟨g, 0, none⟩, bn, cg, h⟩ : Rw).a = some a → wL.heap.size ≤ a.block ∧ a.block < wr.heap.size ∧ (Value.slice ah k c).ownBlock ≠ some a.block) := Lib.hid (fun a ha => by
                    obtain rfl := Option.some.inj ha
                    have h1 := Own.ge OP g rfl
                    have h2 := Own.lt OP g rfl
                    exact ⟨by have := HOL.out.1; simp only; omega, h2, fun e => by have := HOL.out.2 _ e; simp only at this; omega⟩)
                  clear HT1 HT2 HK HKD OP hsl
                  go_wp2_with (first | (at_make; refine Stop.un ?_) | (at_builtin; refine Stop.un ?_) | (with_reducible refine Stop.conv 22 9 ?_) | (with_reducible refine Stop.conv 9 22 ?_))
                  refine Stop.mk (app_rw1 (r := ⟨some ⟨g, 0, none⟩, bn, cg, h⟩) wL _ _ rfl rfl M.O rfl rfl (by omega) ?_)
                  intro a5 c5 w5 O5 g5 k5
                  have M5 := M.push ro fz HRB.out O5 g5 k5
                  have HT3 : Hid ((hs ++ [(⟨some ⟨g, 0, none⟩, bn, cg, h⟩ : Rw)]).map (·.l) = headsB bs ((rows.take (j + 1)).map (·.l))) := Lib.hid (by rw [hT, List.map_append]; rfl)
                  clear M ro fz HRB O5 g5 k5 hT HOL
                  go_wp2_with (first | (at_make; refine Stop.un ?_) | (at_builtin; refine Stop.un ?_) | (with_reducible refine Stop.conv 22 9 ?_) | (with_reducible refine Stop.conv 9 22 ?_))
                  go_roundw
                  case rel => exact ⟨j + 1, a5, k + 1, c5, _, by omega, by go_num, rfl, by omega, M5, HT3⟩
                  case measure => simp [intOf]; omega
            · obtain rfl : j = i := by omega
              have hTK : (rows.take j).map (·.l) = rows.map (·.l) := by rw [List.take_of_length_le (by have := HN.out.2.1; omega)]
              have hlN : hs.length = N := OwnRs.length M.O
              have HLN : Hid (hs.length = N ∧ ∀ h ∈ hs, h.n = bn) := Lib.hid ⟨hlN, fun h hh => by
                have h1 := headsB_len (bs := bs) (rows := rows.map (·.l)) h.l (by
                  rw [← hTK, ← HH.out]
                  exact List.mem_map_of_mem (f := fun x : Rw => x.l) hh)
                have h2 := (M.F h hh).1.len
                have h3 := HN.out.2.2.1
                omega⟩
              have HKR : Hid (∀ r ∈ rows.map (·.l), ∀ v ∈ r, 0 ≤ v.k) := Lib.hid (fun r hr v hv => by
                obtain ⟨y, hy, rfl⟩ := List.mem_map.1 hr
                exact (HTT.out.2.1.ok y hy).kind v hv)
              have HSW := Lib.hid (fun h => same_map bs h rows)
              have HX := Lib.hid HH.out
              rw [hTK] at HX
              rw [← HX.out] at HREF
              generalize rows.map (·.l) = R at HREF HKR HSW
              have HLO : Hid (∀ r ∈ rows, r ∈ rows) := Lib.hid (fun r h => h)
              clear hTK hlN HX HH hlt hj HLO
              obtain ⟨wH, hwH⟩ : ∃ wH, wr = wH := ⟨_, rfl⟩
              rw [hwH] at M ⊢
              clear hwH
              have hlec := owns_le M.O.1
              have hmxc : c ≤ 9223372036854775807 := owns_max M.O.1
              have hN1 : N ≤ 1001 := by omega
              clear hNj
              go_wp2_with (first | (at_make; refine Stop.un ?_) | (at_builtin; refine Stop.un ?_) | (with_reducible refine Stop.conv 22 9 ?_) | (with_reducible refine Stop.conv 9 22 ?_))
              go_loopw [20, 19] (fun kv ov wr => ∃ (k : Nat) (ao : Option Addr) (co : Nat) (outs : List Rw), k ≤ N ∧ kv = .int .i64 (k : Int) ∧ ov = .slice ao k co ∧ OutM wH wr (.slice ao k co) k outs ∧ Hid (outs.map (·.l) = ((hs.take k).map (·.l)).map (outB bs ags R) ∧ ∀ h ∈ hs.take k, badB bs ags R h.l = false)) (fun kv _ _ => N - (intOf kv).toNat)
              case atStart => exact ⟨0, none, 0, [], Nat.zero_le _, rfl, rfl, OutM.nil (Below.refl _ _), Lib.hid ⟨rfl, fun h hh => by cases hh⟩⟩
              case round =>
                obtain ⟨k, ao, co, outs, hk, rfl, rfl, MO, HO⟩ := hrel
                by_cases hkN : k < N
                · have hkl : k < hs.length := by have := HLN.out.1; omega
                  have Mx := M.below (Own.below MO.O)
                  have cs := Own.cs Mx.O
                  obtain ⟨hb, ho, rfl⟩ := cs.addr (by rw [rwcells_length]; omega)
                  have y0 : wr.cell? ⟨hb, ho + k, none⟩ = some (.slice hs[k].a hs[k].n hs[k].cap) := cs.at (by simp [rwcells, hkl, Rw.sl])
                  have ok := (Mx.F hs[k] (List.getElem_mem _)).1
                  have hrn := HLN.out.2 hs[k] (List.getElem_mem _)
                  have HBAD : Hid (badB bs ags R hs[k].l = true → res = (220, [])) := Lib.hid (fun h => HREF.out.trans (if_pos (List.any_eq_true.2 ⟨hs[k].l, List.mem_map_of_mem (f := fun x : Rw => x.l) (List.getElem_mem hkl), h⟩)))
                  have HO2 : Hid (badB bs ags R hs[k].l = false → ((outs.map (·.l)) ++ [outB bs ags R hs[k].l] = ((hs.take (k + 1)).map (·.l)).map (outB bs ags R) ∧ ∀ h ∈ hs.take (k + 1), badB bs ags R h.l = false)) := Lib.hid (fun hg => by
                    rw [List.take_succ_eq_append_getElem hkl]
                    refine ⟨by rw [HO.out.1, List.map_append, List.map_append]; rfl, fun h hh => ?_⟩
                    rcases List.mem_append.1 hh with h1 | h1
                    · exact HO.out.2 h h1
                    · rw [List.mem_singleton.1 h1]; exact hg)
                  generalize hs[k] = hr at y0 ok hrn HBAD HO2
                  obtain ⟨hra, hrn', hrc, hl⟩ := hr
                  simp only at y0 hrn HBAD HO2
                  subst hrn
                  have hlen : hl.length = hrn' := ok.len
                  have hhle : hrn' ≤ hrc := ok.le
                  have hhmx : hrc ≤ 9223372036854775807 := ok.max
                  have hcs : Cs wr hra (vcells hl) := ok.cs
                  have HHK : Hid (∀ v ∈ hl, 0 ≤ v.k) := Lib.hid ok.kind
                  have HLE := Lib.hid hlen
                  clear hkl cs ok hlen Mx HO
                  obtain ⟨wx, hwx⟩ : ∃ wx, wr = wx := ⟨_, rfl⟩
                  rw [hwx] at MO y0 hcs ⊢
                  clear hwx
                  have hS : OwnV wx (wx.alloc (.cells #[] 38)) (.slice (some ⟨wx.heap.size, 0, none⟩) 0 0) 0 [] := Own.block (Below.refl _ _) rfl (by decide)
                  have hcsA := hcs.alloc (.cells #[] 38)
                  have y1 := Ext.cell ((Below.refl wx.heap.size wx).alloc (Nat.le_refl _) (.cells #[] 38)) y0
                  go_wp2_with (first | (at_make; refine Stop.un ?_) | (at_builtin; refine Stop.un ?_) | (with_reducible refine Stop.conv 22 9 ?_) | (with_reducible refine Stop.conv 9 22 ?_))
                  refine Stop.mk (app_rsk wx _ _ rfl rfl hS rfl rfl HLE.out hcsA (by omega) ?_)
                  intro g0 c0 w0 O0 g4 k4
                  simp only [Nat.zero_add, List.nil_append] at O0 ⊢
                  have HL0 : Hid (hl = hl ++ (ags.take 0).map (fun x => (aggB (sameB bs hl R) x).1)) := Lib.hid (by simp)
                  have O1 : OwnV wx w0 (.slice (some ⟨g0, 0, none⟩) (hrn' + 0) c0) (hrn' + 0) (hl ++ (ags.take 0).map (fun x => (aggB (sameB bs hl R) x).1)) := by rw [← HL0.out]; exact O0
                  clear hS hcsA g4 k4 O0 HL0 y1
                  go_wp2_with (first | (at_make; refine Stop.un ?_) | (at_builtin; refine Stop.un ?_) | (with_reducible refine Stop.conv 22 9 ?_) | (with_reducible refine Stop.conv 9 22 ?_))
                  go_loopw [22, 21] (fun iv rv wr => ∃ (p g c : Nat), p ≤ gn ∧ iv = .int .i64 (p : Int) ∧ rv = .slice (some ⟨g, 0, none⟩) (hrn' + p) c ∧ OwnV wx wr (.slice (some ⟨g, 0, none⟩) (hrn' + p) c) (hrn' + p) (hl ++ (ags.take p).map (fun x => (aggB (sameB bs hl R) x).1)) ∧ Hid (∀ x ∈ ags.take p, (aggB (sameB bs hl R) x).2 = 0)) (fun iv _ _ => gn - (intOf iv).toNat)
                  case atStart => exact ⟨0, g0, c0, Nat.zero_le _, rfl, rfl, O1, Lib.hid (fun x hx => by cases hx)⟩
                  case round =>
                    clear O1
                    obtain ⟨p, g, cg, hp, rfl, rfl, O, HZ⟩ := hrel
                    by_cases hpg : p < gn
                    · have hpl : p < ags.length := by have := HN.out.2.2.2.1; omega
                      have bI := Own.below O
                      have bW := ((b0.next (Own.below M.O)).next (Own.below MO.O)).next bI
                      have t2 := HTT.out.2.1.mono bW
                      have hb2 := HTT.out.2.2.1.mono bW (Nat.le_refl _)
                      have h4 := HTT.out.2.2.2.mono bW (Nat.le_refl _)
                      obtain ⟨b, o, rfl⟩ := h4.addr (by rw [agcells_length]; omega)
                      obtain ⟨x0, x1⟩ := h4.agat hpl
                      have hh2 := hcs.mono bI (Nat.le_refl _)
                      have y1 := Ext.cell bI y0
                      have hax := HAGS.out ags[p] (List.getElem_mem _)
                      have HT : Hid (hl ++ (ags.take (p + 1)).map (fun x => (aggB (sameB bs hl R) x).1) = hl ++ (ags.take p).map (fun x => (aggB (sameB bs hl R) x).1) ++ [(aggB (sameB bs hl R) ags[p]).1]) := Lib.hid (by rw [List.take_succ_eq_append_getElem hpl, List.map_append, ← List.append_assoc]; rfl)
                      have HZ2 : Hid ((aggB (sameB bs hl R) ags[p]).2 = 0 → ∀ x ∈ ags.take (p + 1), (aggB (sameB bs hl R) x).2 = 0) := Lib.hid (fun h x hx => by
                        rw [List.take_succ_eq_append_getElem hpl] at hx
                        rcases List.mem_append.1 hx with h1 | h1
                        · exact HZ.out x h1
                        · rw [List.mem_singleton.1 h1]; exact h)
                      have HE2 : Hid ((aggB (sameB bs hl R) ags[p]).2 ≠ 0 → res = (220, [])) := Lib.hid (fun h => HBAD.out (bad_of (List.getElem_mem hpl) h))
                      have HER : Hid ((aggB (sameB bs hl R) ags[p]).2 = 0 ∨ (aggB (sameB bs hl R) ags[p]).2 = 220) := Lib.hid (told_err _ _)
                      generalize ags[p] = x at x0 x1 hax HT HZ2 HE2 HER
                      obtain ⟨op, col⟩ := x
                      simp only at x0 x1 hax
                      obtain ⟨⟨⟨vk, vn, vs⟩, er⟩, hag⟩ : ∃ q, aggB (sameB bs hl R) ⟨op, col⟩ = q := ⟨_, rfl⟩
                      rw [hag] at HT HZ2 HE2 HER
                      simp only at HT HZ2 HE2 HER
                      have HAX := Lib.hid hax
                      have HAG := Lib.hid hag
                      have HSA := Lib.hid (fun (W : World) (tt : Tab W ra rows) (hbb : Cs W ba (icells bs)) (hhh : Cs W hra (vcells hl)) => rsame_any ra j rc rows ba hrn' bc bs hra hrn' hrc hl W tt HN.out.2.1 m2 (by unfold maxLen; omega) s2 hbb HN.out.2.2.1 m3 (by unfold maxLen; omega) s3 HCOL.out hhh HLE.out hhle (by unfold maxLen; omega))
                      have bIs : Hid (w.heap.size ≤ wx.heap.size) := Lib.hid ((b0.next (Own.below M.O)).next (Own.below MO.O)).size
                      have xl := lt_cell x0
                      have yl := lt_cell y1
                      have xl1 := lt_cell x1
                      have hlg := owns_le O.1
                      have hmg : cg ≤ 9223372036854775807 := owns_max O.1
                      have hnone : ∀ q : Nat, some q ≠ none := fun q h => by cases h
                      clear hpl h4 hax hag HZ
                      go_upto_region 35 with fail
                      have HSZ : Hid (wr.heap.size ≤ wr.heap.size) := Lib.hid (Nat.le_refl _)
                      refine mix_startX (wr.heap.size) none 18 rfl (by kernel_rfl) ?_
                      intro xq hxq
                      replace t2 := Tab.mono t2 hxq
                      replace hb2 := Cs.mono hb2 hxq (Nat.le_refl _)
                      replace hh2 := Cs.mono hh2 hxq (Nat.le_refl _)
                      replace O := Own.keep O hxq
                      replace y1 := Ext.cell hxq y1
                      replace x0 := Ext.cell hxq x0
                      replace x1 := Ext.cell hxq x1
                      replace HSZ := Lib.hid (Nat.le_trans (Hid.out HSZ) (Below.size hxq))
                      replace bW := Below.next bW hxq
                      have hxB := hxq
                      clear hxq
                      refine mix_quiet (Keeps.rx (wr.heap.size) none) 0 rfl (by kernel_rfl) rfl ?_
                      intro ι U hne hU
                      go_big_quiet_op
                      clear hU hne U ι
                      show wpAnyM _ _ _ _ _ _ _ _ _
                      refine mix_quiet (Keeps.rx (wr.heap.size) none) 1 rfl (by kernel_rfl) rfl ?_
                      intro ι U hne hU
                      go_big_quiet_op
                      clear hU hne U ι
                      show wpAnyM _ _ _ _ _ _ _ _ _
                      refine mix_quiet (Keeps.rx (wr.heap.size) none) 2 rfl (by kernel_rfl) rfl ?_
                      intro ι U hne hU
                      go_big_quiet_op
                      clear hU hne U ι
                      show wpAnyM _ _ _ _ _ _ _ _ _
                      refine mix_quiet (Keeps.rx (wr.heap.size) none) 3 rfl (by kernel_rfl) rfl ?_
                      intro ι U hne hU
                      go_big_quiet_op
                      clear hU hne U ι
                      show wpAnyM _ _ _ _ _ _ _ _ _
                      refine mix_quiet (Keeps.rx (wr.heap.size) none) 4 rfl (by kernel_rfl) rfl ?_
                      intro ι U hne hU
                      go_big_quiet_op
                      clear hU hne U ι
                      show wpAnyM _ _ _ _ _ _ _ _ _
                      refine mix_quiet (Keeps.rx (wr.heap.size) none) 5 rfl (by kernel_rfl) rfl ?_
                      intro ι U hne hU
                      have hcw0 := fun ii => (RX.cell (hU ii) yl (hnone _) y1)
                      have hcw1 := fun ii => (RX.cell (hU ii) xl (hnone _) x0)
                      have hcw2 := fun ii => (RX.cell (hU ii) xl1 (hnone _) x1)
                      go_big_quiet_op
                      clear hU hne hcw0 hcw1 hcw2 U ι
                      show wpAnyM _ _ _ _ _ _ _ _ _
                      refine mix_quiet (Keeps.rx (wr.heap.size) none) 7 rfl (by kernel_rfl) rfl ?_
                      intro ι U hne hU
                      go_big_quiet_op
                      clear hU hne U ι
                      show wpAnyM _ _ _ _ _ _ _ _ _
                      refine mix_quiet (Keeps.rx (wr.heap.size) none) 8 rfl (by kernel_rfl) rfl ?_
                      intro ι U hne hU
                      go_big_quiet_op
                      clear hU hne U ι
                      show wpAnyM _ _ _ _ _ _ _ _ _
                      refine mix_quiet (Keeps.rx (wr.heap.size) none) 9 rfl (by kernel_rfl) rfl ?_
                      intro ι U hne hU
                      go_big_quiet_op
                      clear hU hne U ι
                      show wpAnyM _ _ _ _ _ _ _ _ _
                      refine mix_quiet (Keeps.rx (wr.heap.size) none) 10 rfl (by kernel_rfl) rfl ?_
                      intro ι U hne hU
                      have hcw0 := fun ii => (RX.cell (hU ii) yl (hnone _) y1)
                      have hcw1 := fun ii => (RX.cell (hU ii) xl (hnone _) x0)
                      have hcw2 := fun ii => (RX.cell (hU ii) xl1 (hnone _) x1)
                      go_big_quiet_op
                      clear hU hne hcw0 hcw1 hcw2 U ι
                      show wpAnyM _ _ _ _ _ _ _ _ _
                      refine mix_two 6 15 rfl rfl (by kernel_rfl) rfl rfl ?_ ?_
                      ·
                        go_wp2_with (first | (at_make; refine Stop.un ?_) | (at_builtin; refine Stop.un ?_) | (with_reducible refine Stop.conv 22 9 ?_) | (with_reducible refine Stop.conv 9 22 ?_))
                        refine (HSA.out _ t2 hb2 hh2).mono ?_
                        rintro e wq1 ⟨sa, sn, sc, rfl, OS⟩
                        have bq1 := Own.below OS
                        go_wp2_with (first | (at_make; refine Stop.un ?_) | (at_builtin; refine Stop.un ?_) | (with_reducible refine Stop.conv 22 9 ?_) | (with_reducible refine Stop.conv 9 22 ?_))
                        refine MixPost.mk (RX.ext bq1 (Hid.out HSZ)) ?_
                        replace t2 := Tab.mono t2 bq1
                        replace hb2 := Cs.mono hb2 bq1 (Nat.le_refl _)
                        replace hh2 := Cs.mono hh2 bq1 (Nat.le_refl _)
                        replace O := Own.keep O bq1
                        replace y1 := Ext.cell bq1 y1
                        replace x0 := Ext.cell bq1 x0
                        replace x1 := Ext.cell bq1 x1
                        replace HSZ := Lib.hid (Nat.le_trans (Hid.out HSZ) (Below.size bq1))
                        replace bW := Below.next bW bq1
                        clear bq1
                        refine mix_two 11 15 rfl rfl (by kernel_rfl) rfl rfl ?_ ?_
                        ·
                          go_wp2_with (first | (at_make; refine Stop.un ?_) | (at_builtin; refine Stop.un ?_) | (with_reducible refine Stop.conv 22 9 ?_) | (with_reducible refine Stop.conv 9 22 ?_))
                          have hmm : ∀ r ∈ sameW bs hl rows, r ∈ rows := fun r hr => (List.mem_filter.1 hr).1
                          have hsl : sn ≤ 1000 := by
                            have h1 := OwnRs.length OS
                            have h2 := List.length_filter_le (fun r : Rw => decide (hdOf bs r.l = hl)) rows
                            have h3 := HN.out.2.1
                            unfold sameW at h1
                            omega
                          have hon := rone_any sa sn sc (sameW bs hl rows) op col _ ⟨Own.cs OS, fun r hr => t2.ok r (hmm r hr)⟩ (OwnRs.length OS) (owns_le OS.1) (owns_max OS.1) hsl HAX.out.1 (HAX.out.2.imp id (fun ⟨cc, h1, h2⟩ => ⟨cc, h1, fun r hr => h2 r (hmm r hr)⟩)) (fun r hr => HN.out.2.2.2.2 r (hmm r hr))
                          rw [show (sameW bs hl rows).map (·.l) = sameB bs hl R from HSW.out hl, HAG.out] at hon
                          have HOQ := Lib.hid hon
                          clear hon hmm hsl OS
                          refine HOQ.out.mono ?_
                          rintro e wq2 ⟨rfl, bq2⟩
                          simp only [V.val]
                          go_wp2_with (first | (at_make; refine Stop.un ?_) | (at_builtin; refine Stop.un ?_) | (with_reducible refine Stop.conv 22 9 ?_) | (with_reducible refine Stop.conv 9 22 ?_))
                          refine MixPost.mk (RX.ext bq2 (Hid.out HSZ)) ?_
                          replace t2 := Tab.mono t2 bq2
                          replace hb2 := Cs.mono hb2 bq2 (Nat.le_refl _)
                          replace hh2 := Cs.mono hh2 bq2 (Nat.le_refl _)
                          replace O := Own.keep O bq2
                          replace y1 := Ext.cell bq2 y1
                          replace x0 := Ext.cell bq2 x0
                          replace x1 := Ext.cell bq2 x1
                          replace HSZ := Lib.hid (Nat.le_trans (Hid.out HSZ) (Below.size bq2))
                          replace bW := Below.next bW bq2
                          clear bq2 HOQ
                          refine mix_quiet (Keeps.rx (wr.heap.size) none) 12 rfl (by kernel_rfl) rfl ?_
                          intro ι U hne hU
                          go_big_quiet_op
                          clear hU hne U ι
                          show wpAnyM _ _ _ _ _ _ _ _ _
                          refine mix_quiet (Keeps.rx (wr.heap.size) none) 13 rfl (by kernel_rfl) rfl ?_
                          intro ι U hne hU
                          go_big_quiet_op
                          clear hU hne U ι
                          show wpAnyM _ _ _ _ _ _ _ _ _
                          refine mix_quiet (Keeps.rx (wr.heap.size) none) 14 rfl (by kernel_rfl) rfl ?_
                          intro ι U hne hU
                          go_big_quiet_op
                          clear hU hne U ι
                          show wpAnyM _ _ _ _ _ _ _ _ _
                          refine mix_any 15 rfl (by kernel_rfl) rfl ?_
                          go_wp2_with (first | (at_make; refine Stop.un ?_) | (at_builtin; refine Stop.un ?_) | (with_reducible refine Stop.conv 22 9 ?_) | (with_reducible refine Stop.conv 9 22 ?_))
                          have zv := At.new wq2 #[.int .u8 0, .int .i64 0, .string ⟨#[]⟩] 38
                          have hgv := HSZ.out
                          have HGV : Hid (wx.heap.size ≤ wq2.heap.size ∧ (Value.slice (some ⟨g, 0, none⟩) (hrn' + p) cg).ownBlock ≠ some wq2.heap.size) := Lib.hid ⟨Own.le O, fun e => by have := Own.lt O _ e; omega⟩
                          have bqr := (Below.refl wq2.heap.size wq2).alloc (Nat.le_refl _) (.cells #[.int .u8 0, .int .i64 0, .string ⟨#[]⟩] 38)
                          refine MixPost.mk (RX.ext bqr (Hid.out HSZ)) ?_
                          replace t2 := Tab.mono t2 bqr
                          replace hb2 := Cs.mono hb2 bqr (Nat.le_refl _)
                          replace hh2 := Cs.mono hh2 bqr (Nat.le_refl _)
                          replace O := Own.keep O bqr
                          replace y1 := Ext.cell bqr y1
                          replace x0 := Ext.cell bqr x0
                          replace x1 := Ext.cell bqr x1
                          replace HSZ := Lib.hid (Nat.le_trans (Hid.out HSZ) (Below.size bqr))
                          replace bW := Below.next bW bqr
                          clear bqr
                          generalize wq2.alloc (.cells #[.int .u8 0, .int .i64 0, .string ⟨#[]⟩] 38) = wv at zv t2 hb2 hh2 O y1 x0 x1 HSZ bW ⊢
                          generalize wq2.heap.size = gv at zv hgv HGV ⊢
                          refine mix_any 16 rfl (by kernel_rfl) rfl ?_
                          have fq0 := zv.free 0
                          have gq0 := zv.cell 0 rfl
                          have fq1 := zv.free 1
                          have gq1 := zv.cell 1 rfl
                          have fq2 := zv.free 2
                          have gq2 := zv.cell 2 rfl
                          have lq := zv.lt
                          go_wp2_with (first | (at_make; refine Stop.un ?_) | (at_builtin; refine Stop.un ?_) | (with_reducible refine Stop.conv 22 9 ?_) | (with_reducible refine Stop.conv 9 22 ?_))
                          refine MixPost.mk (RX.set3 _ _ _ _  (by first | omega | (simp only [Nat.add_assoc] <;> omega))) ?_
                          clear lq fq0 gq0 fq1 gq1 fq2 gq2
                          refine mix_quiet (Keeps.rx (wr.heap.size) none) 17 rfl (by kernel_rfl) rfl ?_
                          intro ι U hne hU
                          go_big_quiet_op
                          clear hU hne U ι
                          show wpAnyM _ _ _ _ _ _ _ _ _
                          refine mix_end (by kernel_rfl) ?_
                          replace zv := zv.set3 (.int .u8 vk) (.int .i64 vn) (.string vs)
                          replace O := Own.cs_put O vk vn vs (g := gv) HGV.out.1 HGV.out.2
                          replace bW := below_set3 bW (.int .u8 vk) (.int .i64 vn) (.string vs) (g := gv) (Nat.le_trans bIs.out HGV.out.1)
                          clear t2 hb2 hh2 y1 x0 x1 HSZ hnone hxB hgv HGV xl yl xl1 HSA HAX HAG bI
                          generalize (((wv.setCell ⟨gv, 0, none⟩ (.int .u8 vk)).setCell ⟨gv, 1, none⟩ (.int .i64 vn)).setCell ⟨gv, 2, none⟩ (.string vs)) = wD at zv O bW ⊢
                          by_cases her : er = 0
                          ·
                            subst her
                            have HZ3 := Lib.hid (HZ2.out rfl)
                            have d0 := zv.cell 0 rfl
                            have d1 := zv.cell 1 rfl
                            have d2 := zv.cell 2 rfl
                            clear HZ2 HE2 HER bW
                            go_wp2_with (first | (at_make; refine Stop.un ?_) | (at_builtin; refine Stop.un ?_) | (with_reducible refine Stop.conv 22 9 ?_) | (with_reducible refine Stop.conv 9 22 ?_))
                            refine Stop.mk (app_rv1 (c := ⟨vk, vn, vs⟩) wx _ _ rfl rfl O rfl rfl (by omega) ?_)
                            intro g5 c5 w5 O5 _ _
                            rw [← HT.out] at O5
                            clear O HT d0 d1 d2 zv
                            go_wp2_with (first | (at_make; refine Stop.un ?_) | (at_builtin; refine Stop.un ?_) | (with_reducible refine Stop.conv 22 9 ?_) | (with_reducible refine Stop.conv 9 22 ?_))
                            go_roundw
                            case rel => exact ⟨p + 1, g5, c5, by omega, by go_num, rfl, O5, HZ3⟩
                            case measure => simp [intOf]; omega
                          ·
                            have hr220 := HE2.out her
                            have hr : res = (er, []) := by rw [hr220, HER.out.resolve_left her]
                            have HRE := Lib.hid hr
                            have hee : (er != 0) = true := by simpa using her
                            clear HZ2 HE2 HER her hr hr220 zv O HT
                            go_wp2_with (first | (at_make; refine Stop.un ?_) | (at_builtin; refine Stop.un ?_) | (with_reducible refine Stop.conv 22 9 ?_) | (with_reducible refine Stop.conv 9 22 ?_))
                            exact bodyPost_ret (v := .tuple #[.slice none 0 0, .int .i64 (er)]) (by simp [results, Try.results21, go_sem]) rfl (HR0.out _ (er) HRE.out (bW))
                        ·
                          go_wp2_with (first | (at_make; refine Stop.un ?_) | (at_builtin; refine Stop.un ?_) | (with_reducible refine Stop.conv 22 9 ?_) | (with_reducible refine Stop.conv 9 22 ?_))
                          have zv := At.new wq1 #[.int .u8 0, .int .i64 0, .string ⟨#[]⟩] 38
                          have hgv := HSZ.out
                          have HGV : Hid (wx.heap.size ≤ wq1.heap.size ∧ (Value.slice (some ⟨g, 0, none⟩) (hrn' + p) cg).ownBlock ≠ some wq1.heap.size) := Lib.hid ⟨Own.le O, fun e => by have := Own.lt O _ e; omega⟩
                          have bqr := (Below.refl wq1.heap.size wq1).alloc (Nat.le_refl _) (.cells #[.int .u8 0, .int .i64 0, .string ⟨#[]⟩] 38)
                          refine MixPost.mk (RX.ext bqr (Hid.out HSZ)) ?_
                          replace t2 := Tab.mono t2 bqr
                          replace hb2 := Cs.mono hb2 bqr (Nat.le_refl _)
                          replace hh2 := Cs.mono hh2 bqr (Nat.le_refl _)
                          replace O := Own.keep O bqr
                          replace y1 := Ext.cell bqr y1
                          replace x0 := Ext.cell bqr x0
                          replace x1 := Ext.cell bqr x1
                          replace HSZ := Lib.hid (Nat.le_trans (Hid.out HSZ) (Below.size bqr))
                          replace bW := Below.next bW bqr
                          clear bqr
                          replace OS := Own.keep OS ((Below.refl wq1.heap.size wq1).alloc (Nat.le_refl _) (.cells #[.int .u8 0, .int .i64 0, .string ⟨#[]⟩] 38))
                          generalize wq1.alloc (.cells #[.int .u8 0, .int .i64 0, .string ⟨#[]⟩] 38) = wv at zv OS t2 hb2 hh2 O y1 x0 x1 HSZ bW ⊢
                          generalize wq1.heap.size = gv at zv hgv HGV ⊢
                          refine mix_any 11 rfl (by kernel_rfl) rfl ?_
                          go_wp2_with (first | (at_make; refine Stop.un ?_) | (at_builtin; refine Stop.un ?_) | (with_reducible refine Stop.conv 22 9 ?_) | (with_reducible refine Stop.conv 9 22 ?_))
                          have hmm : ∀ r ∈ sameW bs hl rows, r ∈ rows := fun r hr => (List.mem_filter.1 hr).1
                          have hsl : sn ≤ 1000 := by
                            have h1 := OwnRs.length OS
                            have h2 := List.length_filter_le (fun r : Rw => decide (hdOf bs r.l = hl)) rows
                            have h3 := HN.out.2.1
                            unfold sameW at h1
                            omega
                          have hon := rone_any sa sn sc (sameW bs hl rows) op col _ ⟨Own.cs OS, fun r hr => t2.ok r (hmm r hr)⟩ (OwnRs.length OS) (owns_le OS.1) (owns_max OS.1) hsl HAX.out.1 (HAX.out.2.imp id (fun ⟨cc, h1, h2⟩ => ⟨cc, h1, fun r hr => h2 r (hmm r hr)⟩)) (fun r hr => HN.out.2.2.2.2 r (hmm r hr))
                          rw [show (sameW bs hl rows).map (·.l) = sameB bs hl R from HSW.out hl, HAG.out] at hon
                          have HOQ := Lib.hid hon
                          clear hon hmm hsl OS
                          refine HOQ.out.mono ?_
                          rintro e wq2 ⟨rfl, bq2⟩
                          simp only [V.val]
                          go_wp2_with (first | (at_make; refine Stop.un ?_) | (at_builtin; refine Stop.un ?_) | (with_reducible refine Stop.conv 22 9 ?_) | (with_reducible refine Stop.conv 9 22 ?_))
                          refine MixPost.mk (RX.ext bq2 (Hid.out HSZ)) ?_
                          replace t2 := Tab.mono t2 bq2
                          replace hb2 := Cs.mono hb2 bq2 (Nat.le_refl _)
                          replace hh2 := Cs.mono hh2 bq2 (Nat.le_refl _)
                          replace O := Own.keep O bq2
                          replace y1 := Ext.cell bq2 y1
                          replace x0 := Ext.cell bq2 x0
                          replace x1 := Ext.cell bq2 x1
                          replace HSZ := Lib.hid (Nat.le_trans (Hid.out HSZ) (Below.size bq2))
                          replace bW := Below.next bW bq2
                          replace zv := At.mono zv bq2
                          clear bq2 HOQ
                          refine mix_quiet (Keeps.rx (wr.heap.size) none) 12 rfl (by kernel_rfl) rfl ?_
                          intro ι U hne hU
                          go_big_quiet_op
                          clear hU hne U ι
                          show wpAnyM _ _ _ _ _ _ _ _ _
                          refine mix_quiet (Keeps.rx (wr.heap.size) none) 13 rfl (by kernel_rfl) rfl ?_
                          intro ι U hne hU
                          go_big_quiet_op
                          clear hU hne U ι
                          show wpAnyM _ _ _ _ _ _ _ _ _
                          refine mix_quiet (Keeps.rx (wr.heap.size) none) 14 rfl (by kernel_rfl) rfl ?_
                          intro ι U hne hU
                          go_big_quiet_op
                          clear hU hne U ι
                          show wpAnyM _ _ _ _ _ _ _ _ _
                          refine mix_any 16 rfl (by kernel_rfl) rfl ?_
                          have fq0 := zv.free 0
                          have gq0 := zv.cell 0 rfl
                          have fq1 := zv.free 1
                          have gq1 := zv.cell 1 rfl
                          have fq2 := zv.free 2
                          have gq2 := zv.cell 2 rfl
                          have lq := zv.lt
                          go_wp2_with (first | (at_make; refine Stop.un ?_) | (at_builtin; refine Stop.un ?_) | (with_reducible refine Stop.conv 22 9 ?_) | (with_reducible refine Stop.conv 9 22 ?_))
                          refine MixPost.mk (RX.set3 _ _ _ _  (by first | omega | (simp only [Nat.add_assoc] <;> omega))) ?_
                          clear lq fq0 gq0 fq1 gq1 fq2 gq2
                          refine mix_quiet (Keeps.rx (wr.heap.size) none) 17 rfl (by kernel_rfl) rfl ?_
                          intro ι U hne hU
                          go_big_quiet_op
                          clear hU hne U ι
                          show wpAnyM _ _ _ _ _ _ _ _ _
                          refine mix_end (by kernel_rfl) ?_
                          replace zv := zv.set3 (.int .u8 vk) (.int .i64 vn) (.string vs)
                          replace O := Own.cs_put O vk vn vs (g := gv) HGV.out.1 HGV.out.2
                          replace bW := below_set3 bW (.int .u8 vk) (.int .i64 vn) (.string vs) (g := gv) (Nat.le_trans bIs.out HGV.out.1)
                          clear t2 hb2 hh2 y1 x0 x1 HSZ hnone hxB hgv HGV xl yl xl1 HSA HAX HAG bI
                          generalize (((wq2.setCell ⟨gv, 0, none⟩ (.int .u8 vk)).setCell ⟨gv, 1, none⟩ (.int .i64 vn)).setCell ⟨gv, 2, none⟩ (.string vs)) = wD at zv O bW ⊢
                          by_cases her : er = 0
                          ·
                            subst her
                            have HZ3 := Lib.hid (HZ2.out rfl)
                            have d0 := zv.cell 0 rfl
                            have d1 := zv.cell 1 rfl
                            have d2 := zv.cell 2 rfl
                            clear HZ2 HE2 HER bW
                            go_wp2_with (first | (at_make; refine Stop.un ?_) | (at_builtin; refine Stop.un ?_) | (with_reducible refine Stop.conv 22 9 ?_) | (with_reducible refine Stop.conv 9 22 ?_))
                            refine Stop.mk (app_rv1 (c := ⟨vk, vn, vs⟩) wx _ _ rfl rfl O rfl rfl (by omega) ?_)
                            intro g5 c5 w5 O5 _ _
                            rw [← HT.out] at O5
                            clear O HT d0 d1 d2 zv
                            go_wp2_with (first | (at_make; refine Stop.un ?_) | (at_builtin; refine Stop.un ?_) | (with_reducible refine Stop.conv 22 9 ?_) | (with_reducible refine Stop.conv 9 22 ?_))
                            go_roundw
                            case rel => exact ⟨p + 1, g5, c5, by omega, by go_num, rfl, O5, HZ3⟩
                            case measure => simp [intOf]; omega
                          ·
                            have hr220 := HE2.out her
                            have hr : res = (er, []) := by rw [hr220, HER.out.resolve_left her]
                            have HRE := Lib.hid hr
                            have hee : (er != 0) = true := by simpa using her
                            clear HZ2 HE2 HER her hr hr220 zv O HT
                            go_wp2_with (first | (at_make; refine Stop.un ?_) | (at_builtin; refine Stop.un ?_) | (with_reducible refine Stop.conv 22 9 ?_) | (with_reducible refine Stop.conv 9 22 ?_))
                            exact bodyPost_ret (v := .tuple #[.slice none 0 0, .int .i64 (er)]) (by simp [results, Try.results21, go_sem]) rfl (HR0.out _ (er) HRE.out (bW))
                      ·
                        go_wp2_with (first | (at_make; refine Stop.un ?_) | (at_builtin; refine Stop.un ?_) | (with_reducible refine Stop.conv 22 9 ?_) | (with_reducible refine Stop.conv 9 22 ?_))
                        have zv := At.new xq #[.int .u8 0, .int .i64 0, .string ⟨#[]⟩] 38
                        have hgv := HSZ.out
                        have HGV : Hid (wx.heap.size ≤ xq.heap.size ∧ (Value.slice (some ⟨g, 0, none⟩) (hrn' + p) cg).ownBlock ≠ some xq.heap.size) := Lib.hid ⟨Own.le O, fun e => by have := Own.lt O _ e; omega⟩
                        have bqr := (Below.refl xq.heap.size xq).alloc (Nat.le_refl _) (.cells #[.int .u8 0, .int .i64 0, .string ⟨#[]⟩] 38)
                        refine MixPost.mk (RX.ext bqr (Hid.out HSZ)) ?_
                        replace t2 := Tab.mono t2 bqr
                        replace hb2 := Cs.mono hb2 bqr (Nat.le_refl _)
                        replace hh2 := Cs.mono hh2 bqr (Nat.le_refl _)
                        replace O := Own.keep O bqr
                        replace y1 := Ext.cell bqr y1
                        replace x0 := Ext.cell bqr x0
                        replace x1 := Ext.cell bqr x1
                        replace HSZ := Lib.hid (Nat.le_trans (Hid.out HSZ) (Below.size bqr))
                        replace bW := Below.next bW bqr
                        clear bqr
                        generalize xq.alloc (.cells #[.int .u8 0, .int .i64 0, .string ⟨#[]⟩] 38) = wv at zv t2 hb2 hh2 O y1 x0 x1 HSZ bW ⊢
                        generalize xq.heap.size = gv at zv hgv HGV ⊢
                        refine mix_any 6 rfl (by kernel_rfl) rfl ?_
                        go_wp2_with (first | (at_make; refine Stop.un ?_) | (at_builtin; refine Stop.un ?_) | (with_reducible refine Stop.conv 22 9 ?_) | (with_reducible refine Stop.conv 9 22 ?_))
                        refine (HSA.out _ t2 hb2 hh2).mono ?_
                        rintro e wq1 ⟨sa, sn, sc, rfl, OS⟩
                        have bq1 := Own.below OS
                        go_wp2_with (first | (at_make; refine Stop.un ?_) | (at_builtin; refine Stop.un ?_) | (with_reducible refine Stop.conv 22 9 ?_) | (with_reducible refine Stop.conv 9 22 ?_))
                        refine MixPost.mk (RX.ext bq1 (Hid.out HSZ)) ?_
                        replace t2 := Tab.mono t2 bq1
                        replace hb2 := Cs.mono hb2 bq1 (Nat.le_refl _)
                        replace hh2 := Cs.mono hh2 bq1 (Nat.le_refl _)
                        replace O := Own.keep O bq1
                        replace y1 := Ext.cell bq1 y1
                        replace x0 := Ext.cell bq1 x0
                        replace x1 := Ext.cell bq1 x1
                        replace HSZ := Lib.hid (Nat.le_trans (Hid.out HSZ) (Below.size bq1))
                        replace bW := Below.next bW bq1
                        replace zv := At.mono zv bq1
                        clear bq1
                        refine mix_any 11 rfl (by kernel_rfl) rfl ?_
                        go_wp2_with (first | (at_make; refine Stop.un ?_) | (at_builtin; refine Stop.un ?_) | (with_reducible refine Stop.conv 22 9 ?_) | (with_reducible refine Stop.conv 9 22 ?_))
                        have hmm : ∀ r ∈ sameW bs hl rows, r ∈ rows := fun r hr => (List.mem_filter.1 hr).1
                        have hsl : sn ≤ 1000 := by
                          have h1 := OwnRs.length OS
                          have h2 := List.length_filter_le (fun r : Rw => decide (hdOf bs r.l = hl)) rows
                          have h3 := HN.out.2.1
                          unfold sameW at h1
                          omega
                        have hon := rone_any sa sn sc (sameW bs hl rows) op col _ ⟨Own.cs OS, fun r hr => t2.ok r (hmm r hr)⟩ (OwnRs.length OS) (owns_le OS.1) (owns_max OS.1) hsl HAX.out.1 (HAX.out.2.imp id (fun ⟨cc, h1, h2⟩ => ⟨cc, h1, fun r hr => h2 r (hmm r hr)⟩)) (fun r hr => HN.out.2.2.2.2 r (hmm r hr))
                        rw [show (sameW bs hl rows).map (·.l) = sameB bs hl R from HSW.out hl, HAG.out] at hon
                        have HOQ := Lib.hid hon
                        clear hon hmm hsl OS
                        refine HOQ.out.mono ?_
                        rintro e wq2 ⟨rfl, bq2⟩
                        simp only [V.val]
                        go_wp2_with (first | (at_make; refine Stop.un ?_) | (at_builtin; refine Stop.un ?_) | (with_reducible refine Stop.conv 22 9 ?_) | (with_reducible refine Stop.conv 9 22 ?_))
                        refine MixPost.mk (RX.ext bq2 (Hid.out HSZ)) ?_
                        replace t2 := Tab.mono t2 bq2
                        replace hb2 := Cs.mono hb2 bq2 (Nat.le_refl _)
                        replace hh2 := Cs.mono hh2 bq2 (Nat.le_refl _)
                        replace O := Own.keep O bq2
                        replace y1 := Ext.cell bq2 y1
                        replace x0 := Ext.cell bq2 x0
                        replace x1 := Ext.cell bq2 x1
                        replace HSZ := Lib.hid (Nat.le_trans (Hid.out HSZ) (Below.size bq2))
                        replace bW := Below.next bW bq2
                        replace zv := At.mono zv bq2
                        clear bq2 HOQ
                        refine mix_quiet (Keeps.rx (wr.heap.size) none) 12 rfl (by kernel_rfl) rfl ?_
                        intro ι U hne hU
                        go_big_quiet_op
                        clear hU hne U ι
                        show wpAnyM _ _ _ _ _ _ _ _ _
                        refine mix_quiet (Keeps.rx (wr.heap.size) none) 13 rfl (by kernel_rfl) rfl ?_
                        intro ι U hne hU
                        go_big_quiet_op
                        clear hU hne U ι
                        show wpAnyM _ _ _ _ _ _ _ _ _
                        refine mix_quiet (Keeps.rx (wr.heap.size) none) 14 rfl (by kernel_rfl) rfl ?_
                        intro ι U hne hU
                        go_big_quiet_op
                        clear hU hne U ι
                        show wpAnyM _ _ _ _ _ _ _ _ _
                        refine mix_any 16 rfl (by kernel_rfl) rfl ?_
                        have fq0 := zv.free 0
                        have gq0 := zv.cell 0 rfl
                        have fq1 := zv.free 1
                        have gq1 := zv.cell 1 rfl
                        have fq2 := zv.free 2
                        have gq2 := zv.cell 2 rfl
                        have lq := zv.lt
                        go_wp2_with (first | (at_make; refine Stop.un ?_) | (at_builtin; refine Stop.un ?_) | (with_reducible refine Stop.conv 22 9 ?_) | (with_reducible refine Stop.conv 9 22 ?_))
                        refine MixPost.mk (RX.set3 _ _ _ _  (by first | omega | (simp only [Nat.add_assoc] <;> omega))) ?_
                        clear lq fq0 gq0 fq1 gq1 fq2 gq2
                        refine mix_quiet (Keeps.rx (wr.heap.size) none) 17 rfl (by kernel_rfl) rfl ?_
                        intro ι U hne hU
                        go_big_quiet_op
                        clear hU hne U ι
                        show wpAnyM _ _ _ _ _ _ _ _ _
                        refine mix_end (by kernel_rfl) ?_
                        replace zv := zv.set3 (.int .u8 vk) (.int .i64 vn) (.string vs)
                        replace O := Own.cs_put O vk vn vs (g := gv) HGV.out.1 HGV.out.2
                        replace bW := below_set3 bW (.int .u8 vk) (.int .i64 vn) (.string vs) (g := gv) (Nat.le_trans bIs.out HGV.out.1)
                        clear t2 hb2 hh2 y1 x0 x1 HSZ hnone hxB hgv HGV xl yl xl1 HSA HAX HAG bI
                        generalize (((wq2.setCell ⟨gv, 0, none⟩ (.int .u8 vk)).setCell ⟨gv, 1, none⟩ (.int .i64 vn)).setCell ⟨gv, 2, none⟩ (.string vs)) = wD at zv O bW ⊢
                        by_cases her : er = 0
                        ·
                          subst her
                          have HZ3 := Lib.hid (HZ2.out rfl)
                          have d0 := zv.cell 0 rfl
                          have d1 := zv.cell 1 rfl
                          have d2 := zv.cell 2 rfl
                          clear HZ2 HE2 HER bW
                          go_wp2_with (first | (at_make; refine Stop.un ?_) | (at_builtin; refine Stop.un ?_) | (with_reducible refine Stop.conv 22 9 ?_) | (with_reducible refine Stop.conv 9 22 ?_))
                          refine Stop.mk (app_rv1 (c := ⟨vk, vn, vs⟩) wx _ _ rfl rfl O rfl rfl (by omega) ?_)
                          intro g5 c5 w5 O5 _ _
                          rw [← HT.out] at O5
                          clear O HT d0 d1 d2 zv
                          go_wp2_with (first | (at_make; refine Stop.un ?_) | (at_builtin; refine Stop.un ?_) | (with_reducible refine Stop.conv 22 9 ?_) | (with_reducible refine Stop.conv 9 22 ?_))
                          go_roundw
                          case rel => exact ⟨p + 1, g5, c5, by omega, by go_num, rfl, O5, HZ3⟩
                          case measure => simp [intOf]; omega
                        ·
                          have hr220 := HE2.out her
                          have hr : res = (er, []) := by rw [hr220, HER.out.resolve_left her]
                          have HRE := Lib.hid hr
                          have hee : (er != 0) = true := by simpa using her
                          clear HZ2 HE2 HER her hr hr220 zv O HT
                          go_wp2_with (first | (at_make; refine Stop.un ?_) | (at_builtin; refine Stop.un ?_) | (with_reducible refine Stop.conv 22 9 ?_) | (with_reducible refine Stop.conv 9 22 ?_))
                          exact bodyPost_ret (v := .tuple #[.slice none 0 0, .int .i64 (er)]) (by simp [results, Try.results21, go_sem]) rfl (HR0.out _ (er) HRE.out (bW))
                    · obtain rfl : p = gn := by omega
                      have hTA : ags.take p = ags := List.take_of_length_le (by have := HN.out.2.2.2.1; omega)
                      rw [hTA] at O HZ
                      have HO3 := Lib.hid (HO2.out (bad_not HZ.out))
                      have O2 : OwnV wx wr (.slice (some ⟨g, 0, none⟩) (hrn' + p) cg) (hrn' + p) (outB bs ags R hl) := O
                      have HKO := Lib.hid (out_kind (bs := bs) (ags := ags) HKR.out HHK.out)
                      generalize outB bs ags R hl = ol at O2 HO3 HKO
                      have ro := rw_ownG O2 HKO.out
                      have fz : Fz wr ⟨some ⟨g, 0, none⟩, hrn' + p, cg, ol⟩ := Fz.own O2
                      have HRB : Hid (∀ a, (⟨some ⟨g, 0, none⟩, hrn' + p, cg, ol⟩ : Rw).a = some a → wH.heap.size ≤ a.block ∧ a.block < wr.heap.size ∧ (Value.slice ao k co).ownBlock ≠ some a.block) := Lib.hid (fun a ha => by
                        obtain rfl := Option.some.inj ha
                        have h1 := Own.ge O2 g rfl
                        have h2 := Own.lt O2 g rfl
                        have h3 := Own.le MO.O
                        exact ⟨by simp only; omega, h2, fun e => by have := Own.lt MO.O _ e; simp only at this; omega⟩)
                      have MO2 := MO.below (Own.below O2)
                      have hlg := owns_le O2.1
                      have hmg : cg ≤ 9223372036854775807 := owns_max O2.1
                      clear O O2 HZ HO2 HBAD hTA HKO hcs y0 MO
                      go_wp2_with (first | (at_make; refine Stop.un ?_) | (at_builtin; refine Stop.un ?_) | (with_reducible refine Stop.conv 22 9 ?_) | (with_reducible refine Stop.conv 9 22 ?_))
                      refine Stop.mk (app_rw1 (r := ⟨some ⟨g, 0, none⟩, hrn' + p, cg, ol⟩) wH _ _ rfl rfl MO2.O rfl rfl (by omega) ?_)
                      intro a5 c5 w5 O5 g5 k5
                      have M5 := MO2.push ro fz HRB.out O5 g5 k5
                      have HO4 : Hid ((outs ++ [(⟨some ⟨g, 0, none⟩, hrn' + p, cg, ol⟩ : Rw)]).map (·.l) = ((hs.take (k + 1)).map (·.l)).map (outB bs ags R) ∧ ∀ h ∈ hs.take (k + 1), badB bs ags R h.l = false) := Lib.hid ⟨by rw [List.map_append, ← HO3.out.1]; rfl, HO3.out.2⟩
                      clear MO2 ro fz HRB O5 g5 k5 HO3
                      go_wp2_with (first | (at_make; refine Stop.un ?_) | (at_builtin; refine Stop.un ?_) | (with_reducible refine Stop.conv 22 9 ?_) | (with_reducible refine Stop.conv 9 22 ?_))
                      go_roundw
                      case rel => exact ⟨k + 1, a5, c5, _, by omega, by go_num, rfl, M5, HO4⟩
                      case measure => simp [intOf]; omega
                · obtain rfl : k = N := by omega
                  have hTH : hs.take k = hs := List.take_of_length_le (by have := HLN.out.1; omega)
                  have HRS : Hid (res = (0, sortL (idKeys bn) (outs.map (·.l)))) := Lib.hid (by
                    have h1 := HO.out
                    rw [hTH] at h1
                    rw [HREF.out, if_neg (by
                      rw [List.any_eq_true]
                      rintro ⟨x, hx, hb⟩
                      obtain ⟨y, hy, rfl⟩ := List.mem_map.1 hx
                      rw [h1.2 y hy] at hb
                      cases hb), h1.1, HN.out.2.2.1])
                  have HLO : Hid (outs.length = k) := Lib.hid (OwnRs.length MO.O)
                  have HBH : Hid (Below w.heap.size w wH) := Lib.hid (b0.next (Own.below M.O))
                  have hleo := owns_le MO.O.1
                  have hmxo : co ≤ 9223372036854775807 := owns_max MO.O.1
                  clear M HO HREF hTH
                  obtain ⟨wS, hwS⟩ : ∃ wS, wr = wS := ⟨_, rfl⟩
                  rw [hwS] at MO ⊢
                  clear hwS
                  go_wp2_with (first | (at_make; refine Stop.un ?_) | (at_builtin; refine Stop.un ?_) | (with_reducible refine Stop.conv 22 9 ?_) | (with_reducible refine Stop.conv 9 22 ?_))
                  go_loopw [26, 25] (fun iv kv wr => ∃ (q : Nat) (ak : Option Addr) (ck : Nat), q ≤ bn ∧ iv = .int .i64 (q : Int) ∧ kv = .slice ak q ck ∧ Own wS wr 59 2 (.slice ak q ck) q (kcells (idKeys q))) (fun iv _ _ => bn - (intOf iv).toNat)
                  case atStart => exact ⟨0, none, 0, Nat.zero_le _, rfl, rfl, Own.nil _ _ (Below.refl _ _)⟩
                  case round =>
                    obtain ⟨q, ak, ck, hq, rfl, rfl, OK⟩ := hrel
                    by_cases hqb : q < bn
                    · go_wp2_with (first | (at_make; refine Stop.un ?_) | (at_builtin; refine Stop.un ?_) | (with_reducible refine Stop.conv 22 9 ?_) | (with_reducible refine Stop.conv 9 22 ?_))
                      refine Stop.mk (app_ky1 (c := (q : Int)) wS _ _ rfl rfl OK rfl rfl (by omega) ?_)
                      intro a5 c5 w5 O5 g5 k5
                      rw [← idKeys_succ] at O5
                      clear OK g5 k5
                      go_wp2_with (first | (at_make; refine Stop.un ?_) | (at_builtin; refine Stop.un ?_) | (with_reducible refine Stop.conv 22 9 ?_) | (with_reducible refine Stop.conv 9 22 ?_))
                      go_roundw
                      case rel => exact ⟨q + 1, a5, c5, by omega, by go_num, rfl, O5⟩
                      case measure => simp [intOf]; omega
                    · obtain rfl : q = bn := by omega
                      have MS := MO.below (Own.below OK)
                      have hSR := rsort_any ao k co outs ak q ck (idKeys q) wr ⟨Own.cs MS.O, fun r hr => (MS.F r hr).1⟩ HLO.out hleo (by unfold maxLen; omega) (by omega) (Own.cs OK) (by unfold idKeys; rw [List.length_map, List.length_range]) (owns_le OK.1) (owns_max OK.1)
                      have HSR := Lib.hid hSR
                      have hlk := owns_le OK.1
                      have hmk : ck ≤ 9223372036854775807 := owns_max OK.1
                      clear hSR OK MO
                      go_wp2_with (first | (at_make; refine Stop.un ?_) | (at_builtin; refine Stop.un ?_) | (with_reducible refine Stop.conv 22 9 ?_) | (with_reducible refine Stop.conv 9 22 ?_))
                      refine HSR.out.mono ?_
                      rintro e w6 ⟨a6, c6, rfl, OS⟩
                      have MT := MS.below (Own.below OS)
                      have HFIN : Hid (RetGrp w res (.returned (.tuple #[.slice a6 k c6, .int .i64 0])) w6) := Lib.hid (by
                        have hB := HBH.out
                        have hle := Own.le MS.O
                        refine ⟨a6, k, c6, sortB (rcmp (idKeys q)) outs, by rw [HRS.out], ⟨Own.up OS (hB.next (Own.below MS.O)), fun r hr => ?_⟩, by rw [HRS.out]; exact sortL_of _ _⟩
                        have hr2 : r ∈ outs := (sortB_perm _ _).mem_iff.1 hr
                        obtain ⟨f1, f2, f3⟩ := MT.F r hr2
                        refine ⟨f1, f2, fun a ha => ?_⟩
                        have h1 := (MS.F r hr2).2.2 a ha
                        have h2 := f3 a ha
                        exact ⟨Nat.le_trans hB.size h1.1, h2.2.1, fun e => by have := Own.ge OS _ e; have := h1.2.1; omega⟩)
                      clear HSR OS MS MT
                      go_wp2_with (first | (at_make; refine Stop.un ?_) | (at_builtin; refine Stop.un ?_) | (with_reducible refine Stop.conv 22 9 ?_) | (with_reducible refine Stop.conv 9 22 ?_))
                      exact bodyPost_ret (v := .tuple #[.slice a6 k c6, .int .i64 0]) (by simp [results, Try.results21, go_sem]) rfl HFIN.out
  · have hEb : (kindsE kinds bs ags != 0) = true := by simpa using hE
    have HR1 : Hid (res = (kindsE kinds bs ags, [])) := Lib.hid (by rw [← HRES.out]; exact if_neg hE)
    clear hE
    generalize kindsE kinds bs ags = E at hEb HR1 ⊢
    go_wp2_with (first | (at_make; refine Stop.un ?_) | (at_builtin; refine Stop.un ?_) | (with_reducible refine Stop.conv 22 9 ?_) | (with_reducible refine Stop.conv 9 22 ?_))
    exact bodyPost_ret (v := .tuple #[.slice none 0 0, .int .i64 (E)]) (by simp [results, Try.results21, go_sem]) rfl (HR0.out _ (E) HR1.out (b0))
/-! GroupRows. -/
def FzAll (w : World) (q : List Rw) : Prop := ∀ r ∈ q, Fz w r
theorem FzAll.set {w : World} {q : List Rw} (h : FzAll w q) (g k : Nat) (v : Value) : FzAll (w.setCell ⟨g, k, none⟩ v) q := fun r hr a ha => by
  obtain ⟨g', cs, e, e1, e2, e3⟩ := h r hr a ha
  by_cases hg : g' = g
  · subst hg
    have z : At w g' cs e := e2
    exact ⟨g', _, e, e1, z.set k v, by simpa using e3⟩
  · have z : At w g' cs e := e2
    exact ⟨g', cs, e, e1, z.off hg v, e3⟩
set_option maxRecDepth 100000 in
set_option maxHeartbeats 16000000 in
theorem groupRows_any (x : GSt) (w : World) (h : StOk w x) (hv : ∀ r ∈ x.rows, ∀ u ∈ r.l, u.ok) :
    Calls Try.prog 6 #[x.val] w (fun e w' => e = .returned (.bool true) ∧ Below w.heap.size w w') := by
  have HFW := Lib.hid (fun W (h : StOk W x) => few_any22 x W h)
  obtain ⟨ka, kn, kc, kinds, ra, rn, rc, rows, ba, bn, bc, bs, ga, gn, gc, ags⟩ := x
  have z := At.new w #[.slice ka kn kc, .slice ra rn rc, .slice ba bn bc, .slice ga gn gc] 27
  have b0 := (Below.refl w.heap.size w).alloc (Nat.le_refl _) (.cells #[.slice ka kn kc, .slice ra rn rc, .slice ba bn bc, .slice ga gn gc] 27)
  have HOK := Lib.hid h
  have hkm : kn ≤ kc := h.km
  have hrm : rn ≤ rc := h.rm
  have hbm : bn ≤ bc := h.bm
  have hgm : gn ≤ gc := h.gm
  have hkx : kc ≤ 9223372036854775807 := h.kx
  have hrx : rc ≤ 9223372036854775807 := h.rx
  have hbx : bc ≤ 9223372036854775807 := h.bx
  have hgx : gc ≤ 9223372036854775807 := h.gx
  clear h
  have HV := Lib.hid hv
  clear hv
  simp only [GSt.val] at HFW HV ⊢
  go_enter Try.func6, Try.ntmps6
  go_upto_region 1 with fail
  generalize w.alloc (.cells #[.slice ka kn kc, .slice ra rn rc, .slice ba bn bc, .slice ga gn gc] 27) = wA at z b0 ⊢
  obtain ⟨gz, hgz⟩ : ∃ g, w.heap.size = g := ⟨_, rfl⟩
  rw [hgz] at z ⊢
  clear hgz
  go_wp2_with (first | (at_make; refine Stop.un ?_) | (at_builtin; refine Stop.un ?_) | (with_reducible refine Stop.conv 22 9 ?_) | (with_reducible refine Stop.conv 9 22 ?_))
  refine (shown_any22 _).mono ?_
  rintro e w1 ⟨rfl, bt⟩
  replace z := z.mono bt
  replace b0 := b0.next bt
  clear bt
  have c0 := z.cell 0 rfl
  have c1 := z.cell 1 rfl
  have c2 := z.cell 2 rfl
  have c3 := z.cell 3 rfl
  have HF1 := Lib.hid (HFW.out w1 (HOK.out.mono b0))
  clear HFW
  go_wp2_with (first | (at_make; refine Stop.un ?_) | (at_builtin; refine Stop.un ?_) | (with_reducible refine Stop.conv 22 9 ?_) | (with_reducible refine Stop.conv 9 22 ?_))
  refine HF1.out.mono ?_
  rintro e w2 ⟨q, rfl, bt, hq⟩
  replace z := z.mono bt
  replace b0 := b0.next bt
  clear bt HF1 c0 c1 c2 c3
  cases q with
  | false =>
    clear hq z
    go_wp2_with (first | (at_make; refine Stop.un ?_) | (at_builtin; refine Stop.un ?_) | (with_reducible refine Stop.conv 22 9 ?_) | (with_reducible refine Stop.conv 9 22 ?_))
    go_ret
    exact ⟨by first | rfl | simp, b0⟩
  | true =>
    have hF := hq rfl
    have hkn : kn ≤ 12 := hF.k
    have hbn : bn ≤ 12 := hF.b
    have hrn : rn ≤ 60 := hF.r
    have hgn : gn ≤ 12 := hF.g
    have HFW := Lib.hid hF.w
    have HIN : Hid (∀ r ∈ rows, ∀ v ∈ r.l, inI v.n) := Lib.hid (fun r hr v hv => by
      have := HV.out r hr v hv
      exact ⟨this.2.2.1, this.2.2.2.1⟩)
    have HGK := Lib.hid (fun W (s : StOk W ⟨ka, kn, kc, kinds, ra, rn, rc, rows, ba, bn, bc, bs, ga, gn, gc, ags⟩) => gkinds_any ka kn kc kinds ba bn bc bs ga gn gc ags W s.k s.kl hkm hkx s.b s.bl hbm hbx (by omega) s.g s.gl hgm hgx (by omega))
    have HRK := Lib.hid (fun W (s : StOk W ⟨ka, kn, kc, kinds, ra, rn, rc, rows, ba, bn, bc, bs, ga, gn, gc, ags⟩) => rkinds_any ka kn kc kinds ba bn bc bs ga gn gc ags W s.k s.kl hkm hkx s.b s.bl hbm hbx (by omega) s.g s.gl hgm hgx (by omega))
    have HGR := Lib.hid (fun W (s : StOk W ⟨ka, kn, kc, kinds, ra, rn, rc, rows, ba, bn, bc, bs, ga, gn, gc, ags⟩) => grows_any ka kn kc kinds ra rn rc rows ba bn bc bs ga gn gc ags W s.k s.kl hkm hkx s.r s.rl hrm hrx (by omega) (fun r h => by have := HFW.out r h; omega) s.b s.bl hbm hbx (by omega) s.g s.gl hgm hgx (by omega))
    have HRR := Lib.hid (fun W (s : StOk W ⟨ka, kn, kc, kinds, ra, rn, rc, rows, ba, bn, bc, bs, ga, gn, gc, ags⟩) => rrows_any ka kn kc kinds ra rn rc rows ba bn bc bs ga gn gc ags W s.k s.kl hkm hkx s.r s.rl hrm hrx (by omega) s.b s.bl hbm hbx (by omega) s.g s.gl hgm hgx (by omega) HIN.out)
    have hre := ref_grp kinds (rows.map (·.l)) bs ags (fun r hr v hv => by
      obtain ⟨y, hy, rfl⟩ := List.mem_map.1 hr
      exact HIN.out y hy v hv) (by rw [List.length_map, HOK.out.rl]; show rn ≤ 1000; omega)
    rw [hre] at HRR
    unfold RetKinds at HRK
    clear hre hq hF HV HIN HFW
    generalize kindsE kinds bs ags = E at HGK HRK
    generalize kR E (kindsL kinds bs ags) = KL at HGK HRK
    generalize grpB kinds (rows.map (·.l)) bs ags = res at HGR HRR
    obtain ⟨er, G⟩ := res
    have HCL := Lib.hid (HGK.out _ (HOK.out.mono b0))
    have c0 := z.cell 0 rfl
    have c1 := z.cell 1 rfl
    have c2 := z.cell 2 rfl
    have c3 := z.cell 3 rfl
    go_wp2_with (first | (at_make; refine Stop.un ?_) | (at_builtin; refine Stop.un ?_) | (with_reducible refine Stop.conv 22 9 ?_) | (with_reducible refine Stop.conv 9 22 ?_))
    refine HCL.out.mono ?_
    rintro e w3 ⟨aK, nK, cK, rfl, OK⟩
    clear c0 c1 c2 c3
    clear HCL HGK
    have bt := Own.below OK
    replace z := At.mono z bt
    replace b0 := Below.next b0 bt
    clear bt
    have HCL := Lib.hid (HRK.out _ (HOK.out.mono b0))
    have c0 := z.cell 0 rfl
    have c1 := z.cell 1 rfl
    have c2 := z.cell 2 rfl
    have c3 := z.cell 3 rfl
    go_wp2_with (first | (at_make; refine Stop.un ?_) | (at_builtin; refine Stop.un ?_) | (with_reducible refine Stop.conv 22 9 ?_) | (with_reducible refine Stop.conv 9 22 ?_))
    refine HCL.out.mono ?_
    rintro e w4 ⟨aM, nM, cM, rfl, OM⟩
    clear c0 c1 c2 c3
    clear HCL HRK
    have bt := Own.below OM
    replace z := At.mono z bt
    replace b0 := Below.next b0 bt
    replace OK := Own.keep OK bt
    clear bt
    have HLA : Hid (w.heap.size ≤ w4.heap.size ∧ gz < w4.heap.size) := Lib.hid ⟨b0.size, z.lt⟩
    have HCL := Lib.hid (HGR.out _ (HOK.out.mono b0))
    have c0 := z.cell 0 rfl
    have c1 := z.cell 1 rfl
    have c2 := z.cell 2 rfl
    have c3 := z.cell 3 rfl
    go_wp2_with (first | (at_make; refine Stop.un ?_) | (at_builtin; refine Stop.un ?_) | (with_reducible refine Stop.conv 22 9 ?_) | (with_reducible refine Stop.conv 9 22 ?_))
    refine HCL.out.mono ?_
    rintro e w5 ⟨aA, nA, cA, rA, rfl, MA, hA⟩
    clear c0 c1 c2 c3
    clear HCL 
    have bt := Own.below MA.O
    replace z := At.mono z bt
    replace b0 := Below.next b0 bt
    replace OK := Own.keep OK bt
    replace OM := Own.keep OM bt
    clear bt
    have HA : Hid (rA.map (·.l) = G) := Lib.hid hA
    clear hA
    have HBA : Hid (∀ r ∈ rA, (r.a = none → r.n = 0) ∧ r.n ≤ 9223372036854775807 ∧ ∀ a, r.a = some a → w4.heap.size ≤ a.block ∧ a.block < w5.heap.size ∧ (Value.slice aA nA cA).ownBlock ≠ some a.block) := Lib.hid (fun r hr => ⟨fun hn => by
      have ho := (MA.F r hr).1
      have h2 := ho.cs
      rw [hn] at h2
      have h3 := cs_none h2
      have h4 := congrArg List.length h3
      have h5 := ho.len
      rw [vcells_length, List.length_nil] at h4
      omega, by have h2 := (MA.F r hr).1.le; have h3 := (MA.F r hr).1.max; unfold maxLen at h3; omega, (MA.F r hr).2.2⟩)
    have HCL := Lib.hid (HRR.out _ (HOK.out.mono b0))
    have c0 := z.cell 0 rfl
    have c1 := z.cell 1 rfl
    have c2 := z.cell 2 rfl
    have c3 := z.cell 3 rfl
    go_wp2_with (first | (at_make; refine Stop.un ?_) | (at_builtin; refine Stop.un ?_) | (with_reducible refine Stop.conv 22 9 ?_) | (with_reducible refine Stop.conv 9 22 ?_))
    refine HCL.out.mono ?_
    rintro e w6 ⟨aB, nB, cB, rB, rfl, MB, hB⟩
    clear c0 c1 c2 c3
    clear HCL HRR
    have bt := Own.below MB.O
    replace z := At.mono z bt
    replace b0 := Below.next b0 bt
    replace OK := Own.keep OK bt
    replace OM := Own.keep OM bt
    replace MA := OutM.below MA bt
    clear bt
    have HB : Hid (rB.map (·.l) = G) := Lib.hid hB
    clear hB
    have hEE : (E != E) = false := by simp
    have hrr : (er != er) = false := by simp
    have hst : ((strOf KL).toList == (strOf KL).toList) = true := by simp
    have hle1 := owns_le OK.1
    have hmx1 : cK ≤ 9223372036854775807 := owns_max OK.1
    have hle2 := owns_le OM.1
    have hmx2 : cM ≤ 9223372036854775807 := owns_max OM.1
    have hleA := owns_le MA.O.1
    have hmxA : cA ≤ 9223372036854775807 := owns_max MA.O.1
    have hleB := owns_le MB.O.1
    have hmxB : cB ≤ 9223372036854775807 := owns_max MB.O.1
    have hs := samerows_any aA nA cA rA aB nB cB rB w6 ⟨Own.cs MA.O, fun r hr => (MA.F r hr).1⟩ ⟨Own.cs MB.O, fun r hr => (MB.F r hr).1⟩ (OwnRs.length MA.O) (OwnRs.length MB.O) hleA hleB (by unfold maxLen; omega) (by unfold maxLen; omega)
    rw [decide_eq_true (by rw [HA.out, HB.out])] at hs
    have HS := Lib.hid hs
    clear hs
    go_wp2_with (first | (at_make; refine Stop.un ?_) | (at_builtin; refine Stop.un ?_) | (with_reducible refine Stop.conv 22 9 ?_) | (with_reducible refine Stop.conv 9 22 ?_))
    refine Stop.mk (wpList_conv Try.underlying22 Try.underlying5 Try.underlying9 _ rfl rfl rfl (OwnB.length OK) (Own.cs OK) ?_)
    go_wp2_with (first | (at_make; refine Stop.un ?_) | (at_builtin; refine Stop.un ?_) | (with_reducible refine Stop.conv 22 9 ?_) | (with_reducible refine Stop.conv 9 22 ?_))
    refine Stop.mk (wpList_conv Try.underlying22 Try.underlying5 Try.underlying9 _ rfl rfl rfl (OwnB.length OM) (Own.cs OM) ?_)
    clear OK OM
    go_wp2_with (first | (at_make; refine Stop.un ?_) | (at_builtin; refine Stop.un ?_) | (with_reducible refine Stop.conv 22 9 ?_) | (with_reducible refine Stop.conv 9 22 ?_))
    refine HS.out.mono ?_
    rintro e wS ⟨rfl, bt⟩
    replace z := At.mono z bt
    replace b0 := Below.next b0 bt
    replace MA := OutM.below MA bt
    replace MB := OutM.below MB bt
    clear bt HS hst
    go_wp2_with (first | (at_make; refine Stop.un ?_) | (at_builtin; refine Stop.un ?_) | (with_reducible refine Stop.conv 22 9 ?_) | (with_reducible refine Stop.conv 9 22 ?_))
    clear hEE hrr
    have fz : FzAll wS rA := fun r hr => (MA.F r hr).2.1
    have HMA := Lib.hid MA
    have HMB := Lib.hid MB
    have HZ := Lib.hid (And.intro z b0)
    have HLN : Hid (rA.length = nA) := Lib.hid (OwnRs.length MA.O)
    clear MA MB z b0
    obtain ⟨P, hP⟩ : ∃ P : Nat → Prop, P = (fun q => w4.heap.size ≤ q ∧ q < w5.heap.size ∧ (Value.slice aA nA cA).ownBlock ≠ some q) := ⟨_, rfl⟩
    have HP := Lib.hid hP
    clear hP
    go_loopw [88] (fun v wr => ∃ i : Nat, i ≤ nA ∧ v = .int .i64 (i : Int) ∧ Oth P wS wr ∧ FzAll wr rA) (fun v _ => nA - (intOf v).toNat)
    case atStart => exact ⟨0, Nat.zero_le _, rfl, Oth.refl _ _, fz⟩
    case round =>
      clear fz
      obtain ⟨i, hi, rfl, oth, fz⟩ := hrel
      by_cases hlt : i < nA
      · have hil : i < rA.length := by rw [HLN.out]; exact hlt
        obtain ⟨-, gA, hga, hg0, hg1⟩ := owns_at HMA.out.O.1 (by omega)
        subst hga
        have HX : Hid (∀ W, Oth P wS W → W.cell? ⟨gA, i, none⟩ = some (.slice rA[i].a rA[i].n rA[i].cap)) := Lib.hid (fun W ot => by
          have h1 := (ot.cs (Own.cs HMA.out.O) (fun _ a ha hp => by
            rw [HP.out] at hp
            obtain rfl := Option.some.inj ha
            exact hp.2.2 rfl)).at (b := gA) (o := 0) (j := i) (u := .slice rA[i].a rA[i].n rA[i].cap) (by simp [rwcells, hil, Rw.sl])
          rwa [Nat.zero_add] at h1)
        have HRM : Hid (rA[i] ∈ rA) := Lib.hid (List.getElem_mem _)
        generalize rA[i] = r at HX HRM
        have x0 := HX.out _ oth
        obtain ⟨ra', rn', rc', rl⟩ := r
        have hrb := (HBA.out _ HRM.out).2.1
        simp only at x0 HX hrb
        have gAl := lt_cell x0
        clear hil hg0 hg1
        go_wp2_with (first | (at_make; refine Stop.un ?_) | (at_builtin; refine Stop.un ?_) | (with_reducible refine Stop.conv 22 9 ?_) | (with_reducible refine Stop.conv 9 22 ?_))
        go_loopw [96] (fun v wr => ∃ c : Nat, c ≤ rn' ∧ v = .int .i64 (c : Int) ∧ Oth P wS wr ∧ FzAll wr rA) (fun v _ => rn' - (intOf v).toNat)
        case atStart => exact ⟨0, Nat.zero_le _, rfl, oth, fz⟩
        case round =>
          clear oth fz x0 gAl
          obtain ⟨c, hc, rfl, oth, fz⟩ := hrel
          by_cases hlc : c < rn'
          · cases ra' with
            | none =>
              have h0 := (HBA.out _ HRM.out).1 rfl
              simp only at h0
              omega
            | some ad =>
              obtain ⟨gr, cs, e, rfl, hz, hsz⟩ := fz _ HRM.out _ rfl
              have hpr : P gr := by rw [HP.out]; exact (HBA.out _ HRM.out).2.2 _ rfl
              simp only at hsz
              have zz : At wr gr cs e := hz
              have f5 := zz.free (c * 3 + 1)
              have x5 := zz.cell (c * 3 + 1) (Array.getElem?_eq_getElem (by omega))
              have x0 := HX.out _ oth
              have zl := zz.lt
              have oth9 := oth.set ⟨gr, c * 3 + 1, none⟩ (.int .i64 (-77)) (.inl hpr)
              have fz9 := fz.set gr (c * 3 + 1) (.int .i64 (-77))
              clear oth fz hz zz hpr
              go_wp2_with (first | (at_make; refine Stop.un ?_) | (at_builtin; refine Stop.un ?_) | (with_reducible refine Stop.conv 22 9 ?_) | (with_reducible refine Stop.conv 9 22 ?_))
              go_roundw
              case rel => exact ⟨c + 1, by omega, by go_num, oth9, fz9⟩
              case measure => simp [intOf]; omega
          · obtain rfl : c = rn' := by omega
            go_wp2_with (first | (at_make; refine Stop.un ?_) | (at_builtin; refine Stop.un ?_) | (with_reducible refine Stop.conv 22 9 ?_) | (with_reducible refine Stop.conv 9 22 ?_))
            go_roundw
            case rel => exact ⟨i + 1, by omega, by go_num, oth, fz⟩
            case measure => simp [intOf]; omega
      · obtain rfl : i = nA := by omega
        have z := oth.at HZ.out.1 (fun hp => by rw [HP.out] at hp; have := HLA.out.2; omega)
        have hwS : w.heap.size ≤ wS.heap.size := HZ.out.2.size
        have b0 : Below w.heap.size w wr := by
          have h1 := oth.low (B := w.heap.size) (fun k hk => by rw [HP.out] at hk; have := HLA.out.1; omega) hwS
          have h2 := HZ.out.2
          exact ⟨h1.os.trans h2.os, h1.tape.trans h2.tape, h1.output.trans h2.output, Nat.le_trans h2.size h1.size, fun k hk => (h1.block k hk).trans (h2.block k hk)⟩
        have tB : Tab wr aB rB := ⟨oth.cs (Own.cs HMB.out.O) (fun _ a ha hp => by
          rw [HP.out] at hp
          subst ha
          have h1 := Own.ge HMB.out.O a.block rfl
          omega), fun r hr => oth.row (HMB.out.F r hr).1 (fun a ha hp => by
          rw [HP.out] at hp
          have := ((HMB.out.F r hr).2.2 a ha).1
          omega)⟩
        have hlB : rB.length = nB := OwnRs.length HMB.out.O
        have HTB := Lib.hid (And.intro tB hlB)
        clear tB hlB fz oth hwS
        have c0 := z.cell 0 rfl
        have c1 := z.cell 1 rfl
        have c2 := z.cell 2 rfl
        have c3 := z.cell 3 rfl
        have HCL := Lib.hid (HGR.out _ (HOK.out.mono b0))
        go_wp2_with (first | (at_make; refine Stop.un ?_) | (at_builtin; refine Stop.un ?_) | (with_reducible refine Stop.conv 22 9 ?_) | (with_reducible refine Stop.conv 9 22 ?_))
        refine HCL.out.mono ?_
        rintro e w8 ⟨aC, nC, cC, rC, rfl, MC, hC⟩
        have hs := samerows_any aC nC cC rC aB nB cB rB w8 ⟨Own.cs MC.O, fun r hr => (MC.F r hr).1⟩ (HTB.out.1.mono (Own.below MC.O)) (OwnRs.length MC.O) HTB.out.2 (owns_le MC.O.1) hleB (owns_max MC.O.1) (by unfold maxLen; omega)
        rw [decide_eq_true (by rw [HB.out]; exact hC)] at hs
        have HS := Lib.hid hs
        replace b0 := b0.next (Own.below MC.O)
        clear hs c0 c1 c2 c3 z MC hC HCL HGR
        go_wp2_with (first | (at_make; refine Stop.un ?_) | (at_builtin; refine Stop.un ?_) | (with_reducible refine Stop.conv 22 9 ?_) | (with_reducible refine Stop.conv 9 22 ?_))
        refine HS.out.mono ?_
        rintro e w9 ⟨rfl, bt⟩
        replace b0 := b0.next bt
        clear HS bt
        go_wp2_with (first | (at_make; refine Stop.un ?_) | (at_builtin; refine Stop.un ?_) | (with_reducible refine Stop.conv 22 9 ?_) | (with_reducible refine Stop.conv 9 22 ?_))
        go_ret
        exact ⟨by first | rfl | simp, b0⟩
end Go.Proofs.Ytbiniecjenencaa
