/- RunsFew. -/
import Derived.Test.YtkgcjafediimnaaRLay
set_option linter.unusedVariables false
set_option linter.unusedSimpArgs false
namespace Go.Proofs.Ytkgcjafediimnaa
open Go.RowKit
theorem apart_get : ∀ (rs : List Rn) (j : Nat) (h : j + 1 < rs.length), apart rs = true → rs[j].n ≠ rs[j + 1].n
  | [], j, h, _ => by simp at h
  | [a], j, h, _ => by simp at h
  | a :: b :: t, 0, h, ha => by
    simp [apart] at ha
    intro e
    exact ha.1 e.symm
  | a :: b :: t, j + 1, h, ha => by
    simp [apart] at ha
    exact apart_get (b :: t) j (by simpa using h) ha.2
theorem atGo_at : ∀ (rs : List Rn) (j : Nat) (h : j < rs.length) (i run : Int), (∀ r ∈ rs, 1 ≤ r.k) → 0 ≤ i → i < rs[j].k → atGo rs (totR (rs.take j) + i) run = (rs[j].n, run + j)
  | [], j, h, _, _, _, _, _ => by simp at h
  | r :: t, 0, h, i, run, hp, h0, h1 => by
    simp only [List.take_zero, totR, List.getElem_cons_zero] at h1 ⊢
    unfold atGo
    rw [if_neg (by omega)]; simp
  | r :: t, j + 1, h, i, run, hp, h0, h1 => by
    simp only [List.take_succ_cons, totR, List.getElem_cons_succ] at h1 ⊢
    have hj : j < t.length := by simpa using h
    have ht := totR_ge (t.take j) (fun x hx => hp x (List.mem_cons_of_mem _ (List.mem_of_mem_take hx)))
    unfold atGo
    rw [if_pos (by omega), show r.k + totR (List.take j t) + i - r.k = totR (List.take j t) + i by omega, atGo_at t j hj i (run + 1) (fun x hx => hp x (List.mem_cons_of_mem _ hx)) h0 h1]
    simp; omega
set_option maxRecDepth 100000 in
set_option maxHeartbeats 4000000 in
theorem runsFew_any (ao : Option Addr) (m cap : Nat) (l : List Int) (w : World) (hc : Cs w ao (icells l)) (hm : l.length = m) (hl : m ≤ cap) (hcm : cap ≤ maxLen) :
    Calls Try.prog 4 #[.slice ao m cap] w (fun e w' => e = .returned (.bool true) ∧ Below w.heap.size w w') := by
  have hx : (l.take (min m 500)).length = min m 500 := by simp; omega
  have hcx := icut hc (min m 500)
  have hf5 : min m 500 ≤ 500 := by omega
  have hfc : min m 500 ≤ cap := by omega
  have hmin : (min (m : Int) 500).toNat = min m 500 := by omega
  have hmin2 : min (m : Int) 500 = ((min m 500 : Nat) : Int) := by omega
  generalize l.take (min m 500) = x at hx hcx
  have hcm' := hcm
  unfold maxLen at hcm'
  have HMIN := Lib.hid (And.intro hmin hmin2)
  generalize min m 500 = f at hx hf5 hfc HMIN
  have HO := Lib.hid (fun w hc => of_any ao f cap x w hc hx hfc hcm (by omega))
  have hlen := ofR_length x
  have HP := Lib.hid (ofR_pos x)
  have HA := Lib.hid (apart_of x)
  have HE := Lib.hid (errR_of x (by omega))
  have HT := Lib.hid (totR_of x)
  have HF := Lib.hid (flat_of x)
  have HK := Lib.hid (ofR_k x)
  have HX := Lib.hid hx
  generalize ofR x = rs at HO hlen HP HA HE HT HF HK
  rw [hx] at hlen
  clear hc hm hx hmin hmin2
  go_enter Try.func4, Try.ntmps4
  go_wp2_with (first | (at_make; refine Stop.un ?_) | (at_builtin; refine Stop.un ?_) | (with_reducible refine Stop.conv 24 9 ?_) | (with_reducible refine Stop.conv 9 24 ?_))
  refine (shown_any _).mono ?_
  rintro e w1 ⟨rfl, b1⟩
  replace hcx := hcx.mono b1 (Nat.le_refl _)
  go_wp2_with (first | (at_make; refine Stop.un ?_) | (at_builtin; refine Stop.un ?_) | (with_reducible refine Stop.conv 24 9 ?_) | (with_reducible refine Stop.conv 9 24 ?_) | (with_reducible refine Stop.slice ?_))
  rw [HMIN.out.2]
  refine Stop.mk ?_
  clear HMIN
  go_wp2_with (first | (at_make; refine Stop.un ?_) | (at_builtin; refine Stop.un ?_) | (with_reducible refine Stop.conv 24 9 ?_) | (with_reducible refine Stop.conv 9 24 ?_))
  refine (HO.out _ hcx).mono ?_
  rintro e w2 ⟨a1, n1, c1, h1, rfl, o1⟩
  have hcs := Own.cs o1
  have le1 := owns_le o1.1
  have mx1 := owns_max o1.1
  have mx1' := mx1
  unfold maxLen at mx1'
  have H1 := Lib.hid h1
  have hn1 : n1 ≤ f := by omega
  have hnf : decide (f < n1) = false := by simp; omega
  replace hcx := hcx.mono (Own.below o1) (Nat.le_refl _)
  replace b1 := b1.next (Own.below o1)
  have HAT := Lib.hid (fun (p : Int) (w : World) hc => at_any a1 n1 c1 rs p w hc h1 le1 mx1 (fun r hr => by have := (HK.out r hr).2; have := HX.out; omega))
  clear h1 o1 HO hlen
  go_wp2_with (first | (at_make; refine Stop.un ?_) | (at_builtin; refine Stop.un ?_) | (with_reducible refine Stop.conv 24 9 ?_) | (with_reducible refine Stop.conv 9 24 ?_))
  go_loopw [6, 7, 8, 9, 10, 11, 30] (fun pl _ _ _ _ _ i wr => ∃ (j q : Nat), j ≤ n1 ∧ q ≤ f ∧ i = .int .i64 (j : Int) ∧ pl = .int .i64 (q : Int) ∧ Below w.heap.size w wr ∧ Cs wr ao (icells x) ∧ Cs wr a1 (rcells rs) ∧ Hid ((q : Int) = totR (rs.take j))) (fun _ _ _ _ _ _ i _ => n1 - (intOf i).toNat)
  case atStart => exact ⟨0, 0, by omega, by omega, rfl, rfl, b1, hcx, hcs, Lib.hid rfl⟩
  case round =>
    clear b1 hcx hcs
    obtain ⟨j, q, hj, hq, rfl, rfl, hb, hcx, hcs, HQ⟩ := hrel
    by_cases hlt : j < n1
    · have hjl : j < rs.length := by have := H1.out; omega
      obtain ⟨b, o, rfl⟩ := hcs.addr (by rw [rcells_length]; omega)
      obtain ⟨x0, x1⟩ := hcs.rat hjl
      have hat := fun (i : Int) h0 h1 => atGo_at rs j hjl i 0 HP.out h0 h1
      have hfl := fun (i : Nat) h1 => atGo_flat rs (q + i) 0 HP.out h1
      have htk : totR (rs.take (j + 1)) = q + rs[j].k := by rw [List.take_succ_eq_append_getElem hjl, totR_append, ← HQ.out]; simp [totR]
      have htl := (totR_take rs (j + 1) (by have := (errR_ok HE.out).1; exact this)).2
      rw [htk, HT.out, HX.out] at htl
      have hp := HP.out rs[j] (List.getElem_mem _)
      have hap : ∀ h : 0 < j, rs[j - 1].n ≠ rs[j].n := fun h => by
        have := apart_get rs (j - 1) (by omega) HA.out
        simpa [show j - 1 + 1 = j by omega] using this
      generalize rs[j] = y at x0 x1 hat htk htl hp hap
      obtain ⟨n, c⟩ := y
      simp only at x0 x1 hat htk htl hp hap
      obtain ⟨c, rfl⟩ : ∃ z : Nat, c = z := ⟨c.toNat, by omega⟩
      have hqc : q + c ≤ f := by omega
      have hc1 : 1 ≤ c := by omega
      have HTK := Lib.hid htk
      have HPL : Hid (∀ i : Nat, i < c → atOk rs ((q + i : Nat) : Int) = true ∧ atN rs ((q + i : Nat) : Int) = n ∧ atI rs ((q + i : Nat) : Int) = j ∧ x[q + i]? = some n) := Lib.hid (fun i hi => by
        have e1 := hat i (by omega) (by omega)
        rw [← HQ.out, show (q : Int) + i = ((q + i : Nat) : Int) by omega] at e1
        have e2 : atOk rs ((q + i : Nat) : Int) = true := by
          unfold atOk
          rw [HE.out, HT.out, HX.out]; simp; omega
        have e3 := hfl i (by rw [HT.out, HX.out]; omega)
        rw [HF.out, e1] at e3
        exact ⟨e2, by unfold atN; rw [e2, e1]; rfl, by unfold atI; rw [e2, e1]; simp, e3⟩)
      clear hat hfl htk htl hp
      have hbz := (Below.refl wr.heap.size wr).alloc (Nat.le_refl _) (.cells #[.int .i64 n, .int .i64 c] 34)
      have zr := At.new wr #[.int .i64 n, .int .i64 c] 34
      have hd1 : decide ((c : Int) < 1) = false := by simp; omega
      have hd2 : decide ((f : Int) - q < c) = false := by simp; omega
      by_cases hj0 : j = 0
      ·
        subst hj0
        have hd3 : True := trivial
        simp only [Nat.zero_mul, Nat.add_zero] at x0 x1
        rw [show ((0 : Nat) : Int) = 0 from rfl]
        go_wp2_with (first | (at_make; refine Stop.un ?_) | (at_builtin; refine Stop.un ?_) | (with_reducible refine Stop.conv 24 9 ?_) | (with_reducible refine Stop.conv 9 24 ?_))
        have hg := zr.lt
        replace hb := hb.next hbz
        replace hcx := hcx.mono hbz (Nat.le_refl _)
        replace hcs := hcs.mono hbz (Nat.le_refl _)
        clear hbz x0 x1 hg
        generalize wr.heap.size = g at zr ⊢
        refine mix_startE 27 rfl (by kernel_rfl) ?_
        intro xq hxq
        replace zr := At.mono zr hxq
        replace hb := Below.next hb hxq
        replace hcx := Cs.mono hcx hxq (Nat.le_refl _)
        replace hcs := Cs.mono hcs hxq (Nat.le_refl _)
        clear hxq
        refine mix_quiet Keeps.ext 0 rfl (by kernel_rfl) rfl ?_
        intro ι U hne hU
        go_big_quiet_op
        clear hU hne U ι
        show wpAnyM _ _ _ _ _ _ _ _ _
        refine mix_quiet Keeps.ext 1 rfl (by kernel_rfl) rfl ?_
        intro ι U hne hU
        have hcw0 := fun ii => (At.mono zr (hU ii)).cell 0 rfl
        have hcw1 := fun ii => (At.mono zr (hU ii)).cell 1 rfl
        go_big_quiet_op
        clear hU hne hcw0 hcw1 U ι
        show wpAnyM _ _ _ _ _ _ _ _ _
        refine mix_quiet Keeps.ext 2 rfl (by kernel_rfl) rfl ?_
        intro ι U hne hU
        go_big_quiet_op
        clear hU hne U ι
        show wpAnyM _ _ _ _ _ _ _ _ _
        refine mix_quiet Keeps.ext 3 rfl (by kernel_rfl) rfl ?_
        intro ι U hne hU
        go_big_quiet_op
        clear hU hne U ι
        show wpAnyM _ _ _ _ _ _ _ _ _
        refine mix_quiet Keeps.ext 4 rfl (by kernel_rfl) rfl ?_
        intro ι U hne hU
        go_big_quiet_op
        clear hU hne U ι
        show wpAnyM _ _ _ _ _ _ _ _ _
        refine mix_quiet Keeps.ext 5 rfl (by kernel_rfl) rfl ?_
        intro ι U hne hU
        have hcw0 := fun ii => (At.mono zr (hU ii)).cell 0 rfl
        have hcw1 := fun ii => (At.mono zr (hU ii)).cell 1 rfl
        go_big_quiet_op
        clear hU hne hcw0 hcw1 U ι
        show wpAnyM _ _ _ _ _ _ _ _ _
        refine mix_quiet Keeps.ext 6 rfl (by kernel_rfl) rfl ?_
        intro ι U hne hU
        go_big_quiet_op
        clear hU hne U ι
        show wpAnyM _ _ _ _ _ _ _ _ _
        refine mix_quiet Keeps.ext 7 rfl (by kernel_rfl) rfl ?_
        intro ι U hne hU
        go_big_quiet_op
        clear hU hne U ι
        show wpAnyM _ _ _ _ _ _ _ _ _
        refine mix_quiet Keeps.ext 8 rfl (by kernel_rfl) rfl ?_
        intro ι U hne hU
        go_big_quiet_op
        clear hU hne U ι
        show wpAnyM _ _ _ _ _ _ _ _ _
        refine mix_quiet Keeps.ext 9 rfl (by kernel_rfl) rfl ?_
        intro ι U hne hU
        go_big_quiet_op
        clear hU hne U ι
        show wpAnyM _ _ _ _ _ _ _ _ _
        refine mix_quiet Keeps.ext 10 rfl (by kernel_rfl) rfl ?_
        intro ι U hne hU
        go_big_quiet_op
        clear hU hne U ι
        show wpAnyM _ _ _ _ _ _ _ _ _
        refine mix_quiet Keeps.ext 11 rfl (by kernel_rfl) rfl ?_
        intro ι U hne hU
        go_big_quiet_op
        clear hU hne U ι
        show wpAnyM _ _ _ _ _ _ _ _ _
        refine mix_quiet Keeps.ext 12 rfl (by kernel_rfl) rfl ?_
        intro ι U hne hU
        go_big_quiet_op
        clear hU hne U ι
        show wpAnyM _ _ _ _ _ _ _ _ _
        refine mix_quiet Keeps.ext 13 rfl (by kernel_rfl) rfl ?_
        intro ι U hne hU
        go_big_quiet_op
        clear hU hne U ι
        show wpAnyM _ _ _ _ _ _ _ _ _
        refine mix_quiet Keeps.ext 14 rfl (by kernel_rfl) rfl ?_
        intro ι U hne hU
        go_big_quiet_op
        clear hU hne U ι
        show wpAnyM _ _ _ _ _ _ _ _ _
        refine mix_quiet Keeps.ext 15 rfl (by kernel_rfl) rfl ?_
        intro ι U hne hU
        go_big_quiet_op
        clear hU hne U ι
        show wpAnyM _ _ _ _ _ _ _ _ _
        refine mix_skip Keeps.ext 16 rfl (by kernel_rfl) rfl ?_
        go_big_quiet_skip
        refine wpQuiet_nil ?_
        show wpAnyM _ _ _ _ _ _ _ _ _
        refine mix_skip Keeps.ext 17 rfl (by kernel_rfl) rfl ?_
        go_big_quiet_skip
        refine wpQuiet_nil ?_
        show wpAnyM _ _ _ _ _ _ _ _ _
        refine mix_skip Keeps.ext 18 rfl (by kernel_rfl) rfl ?_
        go_big_quiet_skip
        refine wpQuiet_nil ?_
        show wpAnyM _ _ _ _ _ _ _ _ _
        refine mix_skip Keeps.ext 19 rfl (by kernel_rfl) rfl ?_
        go_big_quiet_skip
        refine wpQuiet_nil ?_
        show wpAnyM _ _ _ _ _ _ _ _ _
        refine mix_skip Keeps.ext 20 rfl (by kernel_rfl) rfl ?_
        go_big_quiet_skip
        refine wpQuiet_nil ?_
        show wpAnyM _ _ _ _ _ _ _ _ _
        refine mix_skip Keeps.ext 21 rfl (by kernel_rfl) rfl ?_
        go_big_quiet_skip
        refine wpQuiet_nil ?_
        show wpAnyM _ _ _ _ _ _ _ _ _
        refine mix_skip Keeps.ext 22 rfl (by kernel_rfl) rfl ?_
        go_big_quiet_skip
        refine wpQuiet_nil ?_
        show wpAnyM _ _ _ _ _ _ _ _ _
        refine mix_skip Keeps.ext 23 rfl (by kernel_rfl) rfl ?_
        go_big_quiet_skip
        refine wpQuiet_nil ?_
        show wpAnyM _ _ _ _ _ _ _ _ _
        refine mix_skip Keeps.ext 24 rfl (by kernel_rfl) rfl ?_
        go_big_quiet_skip
        refine wpQuiet_nil ?_
        show wpAnyM _ _ _ _ _ _ _ _ _
        refine mix_quiet Keeps.ext 25 rfl (by kernel_rfl) rfl ?_
        intro ι U hne hU
        go_big_quiet_op
        clear hU hne U ι
        show wpAnyM _ _ _ _ _ _ _ _ _
        refine mix_quiet Keeps.ext 26 rfl (by kernel_rfl) rfl ?_
        intro ι U hne hU
        go_big_quiet_op
        clear hU hne U ι
        show wpAnyM _ _ _ _ _ _ _ _ _
        refine mix_end (by kernel_rfl) ?_
        have z0 := zr.cell 0 rfl
        have z1 := zr.cell 1 rfl
        have zl := zr.lt
        clear HQ hd1 hd2 hd3
        go_wp2_with (first | (at_make; refine Stop.un ?_) | (at_builtin; refine Stop.un ?_) | (with_reducible refine Stop.conv 24 9 ?_) | (with_reducible refine Stop.conv 9 24 ?_))
        go_loopw [6, 9, 10, 11, 64] (fun pl _ _ _ i wr => ∃ (i' q' : Nat), i' ≤ c ∧ q' ≤ f ∧ i = .int .i64 (i' : Int) ∧ pl = .int .i64 (q' : Int) ∧ Below w.heap.size w wr ∧ Cs wr ao (icells x) ∧ Cs wr (some ⟨b, o, none⟩) (rcells rs) ∧ At wr g #[.int .i64 n, .int .i64 c] 34 ∧ Hid (q' = q + i')) (fun _ _ _ _ i _ => c - (intOf i).toNat)
        case atStart => exact ⟨0, q, by omega, by omega, rfl, rfl, hb, hcx, hcs, zr, Lib.hid rfl⟩
        case round =>
          clear hb hcx hcs zr
          obtain ⟨i, q2, hi, hq2, rfl, rfl, hb, hcx, hcs, zr, HQ⟩ := hrel
          have z0 := zr.cell 0 rfl
          have z1 := zr.cell 1 rfl
          have zl := zr.lt
          by_cases hlt2 : i < c
          ·
            obtain ⟨e1, e2, e3, e4⟩ := HPL.out i hlt2
            rw [← HQ.out] at e1 e2 e3 e4
            have hq3 : q2 < f := by have := HQ.out; omega
            have hA := HAT.out (q2 : Int) _ hcs
            rw [e1, e2, e3] at hA
            have HA2 := Lib.hid hA
            have HX4 := Lib.hid e4
            clear hA e1 e2 e3 e4
            go_wp2_with (first | (at_make; refine Stop.un ?_) | (at_builtin; refine Stop.un ?_) | (with_reducible refine Stop.conv 24 9 ?_) | (with_reducible refine Stop.conv 9 24 ?_))
            refine HA2.out.mono ?_
            rintro e w5 ⟨rfl, b5⟩
            replace hb := hb.next b5
            replace hcx := hcx.mono b5 (Nat.le_refl _)
            replace hcs := hcs.mono b5 (Nat.le_refl _)
            replace zr := zr.mono b5
            clear b5 HA2 z0 z1 zl
            have z0 := zr.cell 0 rfl
            have z1 := zr.cell 1 rfl
            have zl := zr.lt
            obtain ⟨b', o', rfl⟩ := hcx.addr (by rw [icells_length, HX.out]; omega)
            have xc : w5.cell? ⟨b', o' + q2, none⟩ = some (.int .i64 n) := hcx.at (by simp [icells, HX4.out])
            have hb1 : (n != n) = false := by simp
            have hb2 : (((0 : Nat) : Int) != ((0 : Nat) : Int)) = false := by simp
            clear HX4
            go_wp2_with (first | (at_make; refine Stop.un ?_) | (at_builtin; refine Stop.un ?_) | (with_reducible refine Stop.conv 24 9 ?_) | (with_reducible refine Stop.conv 9 24 ?_))
            go_roundw
            case rel => exact ⟨i + 1, q2 + 1, by omega, by omega, by go_num, by go_num, hb, hcx, hcs, zr, Lib.hid (by have := HQ.out; omega)⟩
            case measure => simp [intOf]; omega
          ·
            have hic : i = c := by omega
            subst hic
            go_wp2_with (first | (at_make; refine Stop.un ?_) | (at_builtin; refine Stop.un ?_) | (with_reducible refine Stop.conv 24 9 ?_) | (with_reducible refine Stop.conv 9 24 ?_))
            go_roundw
            case rel => exact ⟨0 + 1, q2, by omega, by omega, by go_num, rfl, hb, hcx, hcs, Lib.hid (by rw [HTK.out, HQ.out]; omega)⟩
            case measure => simp [intOf]; omega
      ·
        have hd3 : decide (0 < j) = true := by simp; omega
        have hjl1 : j - 1 < rs.length := by omega
        obtain ⟨y0, -⟩ := hcs.rat hjl1
        have hne := hap (by omega)
        generalize rs[j - 1].n = n' at y0 hne
        have hd4 : (n' == n) = false := by simpa using hne
        clear hne hap hjl1
        go_wp2_with (first | (at_make; refine Stop.un ?_) | (at_builtin; refine Stop.un ?_) | (with_reducible refine Stop.conv 24 9 ?_) | (with_reducible refine Stop.conv 9 24 ?_))
        have hg := zr.lt
        replace hb := hb.next hbz
        replace hcx := hcx.mono hbz (Nat.le_refl _)
        replace hcs := hcs.mono hbz (Nat.le_refl _)
        replace y0 := Ext.cell hbz y0
        clear hbz x0 x1 hg
        generalize wr.heap.size = g at zr ⊢
        refine mix_startE 27 rfl (by kernel_rfl) ?_
        intro xq hxq
        replace zr := At.mono zr hxq
        replace hb := Below.next hb hxq
        replace hcx := Cs.mono hcx hxq (Nat.le_refl _)
        replace hcs := Cs.mono hcs hxq (Nat.le_refl _)
        replace y0 := Ext.cell hxq y0
        clear hxq
        refine mix_quiet Keeps.ext 0 rfl (by kernel_rfl) rfl ?_
        intro ι U hne hU
        go_big_quiet_op
        clear hU hne U ι
        show wpAnyM _ _ _ _ _ _ _ _ _
        refine mix_quiet Keeps.ext 1 rfl (by kernel_rfl) rfl ?_
        intro ι U hne hU
        have hcw0 := fun ii => (hU ii).cell y0
        have hcw1 := fun ii => (At.mono zr (hU ii)).cell 0 rfl
        have hcw2 := fun ii => (At.mono zr (hU ii)).cell 1 rfl
        go_big_quiet_op
        clear hU hne hcw0 hcw1 hcw2 U ι
        show wpAnyM _ _ _ _ _ _ _ _ _
        refine mix_quiet Keeps.ext 2 rfl (by kernel_rfl) rfl ?_
        intro ι U hne hU
        go_big_quiet_op
        clear hU hne U ι
        show wpAnyM _ _ _ _ _ _ _ _ _
        refine mix_quiet Keeps.ext 3 rfl (by kernel_rfl) rfl ?_
        intro ι U hne hU
        go_big_quiet_op
        clear hU hne U ι
        show wpAnyM _ _ _ _ _ _ _ _ _
        refine mix_quiet Keeps.ext 4 rfl (by kernel_rfl) rfl ?_
        intro ι U hne hU
        go_big_quiet_op
        clear hU hne U ι
        show wpAnyM _ _ _ _ _ _ _ _ _
        refine mix_quiet Keeps.ext 5 rfl (by kernel_rfl) rfl ?_
        intro ι U hne hU
        have hcw0 := fun ii => (hU ii).cell y0
        have hcw1 := fun ii => (At.mono zr (hU ii)).cell 0 rfl
        have hcw2 := fun ii => (At.mono zr (hU ii)).cell 1 rfl
        go_big_quiet_op
        clear hU hne hcw0 hcw1 hcw2 U ι
        show wpAnyM _ _ _ _ _ _ _ _ _
        refine mix_quiet Keeps.ext 6 rfl (by kernel_rfl) rfl ?_
        intro ι U hne hU
        go_big_quiet_op
        clear hU hne U ι
        show wpAnyM _ _ _ _ _ _ _ _ _
        refine mix_quiet Keeps.ext 7 rfl (by kernel_rfl) rfl ?_
        intro ι U hne hU
        go_big_quiet_op
        clear hU hne U ι
        show wpAnyM _ _ _ _ _ _ _ _ _
        refine mix_quiet Keeps.ext 8 rfl (by kernel_rfl) rfl ?_
        intro ι U hne hU
        go_big_quiet_op
        clear hU hne U ι
        show wpAnyM _ _ _ _ _ _ _ _ _
        refine mix_quiet Keeps.ext 9 rfl (by kernel_rfl) rfl ?_
        intro ι U hne hU
        go_big_quiet_op
        clear hU hne U ι
        show wpAnyM _ _ _ _ _ _ _ _ _
        refine mix_quiet Keeps.ext 10 rfl (by kernel_rfl) rfl ?_
        intro ι U hne hU
        go_big_quiet_op
        clear hU hne U ι
        show wpAnyM _ _ _ _ _ _ _ _ _
        refine mix_quiet Keeps.ext 11 rfl (by kernel_rfl) rfl ?_
        intro ι U hne hU
        go_big_quiet_op
        clear hU hne U ι
        show wpAnyM _ _ _ _ _ _ _ _ _
        refine mix_quiet Keeps.ext 12 rfl (by kernel_rfl) rfl ?_
        intro ι U hne hU
        go_big_quiet_op
        clear hU hne U ι
        show wpAnyM _ _ _ _ _ _ _ _ _
        refine mix_quiet Keeps.ext 13 rfl (by kernel_rfl) rfl ?_
        intro ι U hne hU
        go_big_quiet_op
        clear hU hne U ι
        show wpAnyM _ _ _ _ _ _ _ _ _
        refine mix_quiet Keeps.ext 14 rfl (by kernel_rfl) rfl ?_
        intro ι U hne hU
        go_big_quiet_op
        clear hU hne U ι
        show wpAnyM _ _ _ _ _ _ _ _ _
        refine mix_quiet Keeps.ext 15 rfl (by kernel_rfl) rfl ?_
        intro ι U hne hU
        go_big_quiet_op
        clear hU hne U ι
        show wpAnyM _ _ _ _ _ _ _ _ _
        refine mix_quiet Keeps.ext 16 rfl (by kernel_rfl) rfl ?_
        intro ι U hne hU
        go_big_quiet_op
        clear hU hne U ι
        show wpAnyM _ _ _ _ _ _ _ _ _
        refine mix_quiet Keeps.ext 17 rfl (by kernel_rfl) rfl ?_
        intro ι U hne hU
        go_big_quiet_op
        clear hU hne U ι
        show wpAnyM _ _ _ _ _ _ _ _ _
        refine mix_quiet Keeps.ext 18 rfl (by kernel_rfl) rfl ?_
        intro ι U hne hU
        go_big_quiet_op
        clear hU hne U ι
        show wpAnyM _ _ _ _ _ _ _ _ _
        refine mix_quiet Keeps.ext 19 rfl (by kernel_rfl) rfl ?_
        intro ι U hne hU
        go_big_quiet_op
        clear hU hne U ι
        show wpAnyM _ _ _ _ _ _ _ _ _
        refine mix_quiet Keeps.ext 20 rfl (by kernel_rfl) rfl ?_
        intro ι U hne hU
        go_big_quiet_op
        clear hU hne U ι
        show wpAnyM _ _ _ _ _ _ _ _ _
        refine mix_quiet Keeps.ext 21 rfl (by kernel_rfl) rfl ?_
        intro ι U hne hU
        have hcw0 := fun ii => (hU ii).cell y0
        have hcw1 := fun ii => (At.mono zr (hU ii)).cell 0 rfl
        have hcw2 := fun ii => (At.mono zr (hU ii)).cell 1 rfl
        go_big_quiet_op
        clear hU hne hcw0 hcw1 hcw2 U ι
        show wpAnyM _ _ _ _ _ _ _ _ _
        refine mix_quiet Keeps.ext 22 rfl (by kernel_rfl) rfl ?_
        intro ι U hne hU
        go_big_quiet_op
        clear hU hne U ι
        show wpAnyM _ _ _ _ _ _ _ _ _
        refine mix_quiet Keeps.ext 23 rfl (by kernel_rfl) rfl ?_
        intro ι U hne hU
        have hcw0 := fun ii => (hU ii).cell y0
        have hcw1 := fun ii => (At.mono zr (hU ii)).cell 0 rfl
        have hcw2 := fun ii => (At.mono zr (hU ii)).cell 1 rfl
        go_big_quiet_op
        clear hU hne hcw0 hcw1 hcw2 U ι
        show wpAnyM _ _ _ _ _ _ _ _ _
        refine mix_quiet Keeps.ext 24 rfl (by kernel_rfl) rfl ?_
        intro ι U hne hU
        go_big_quiet_op
        clear hU hne U ι
        show wpAnyM _ _ _ _ _ _ _ _ _
        refine mix_quiet Keeps.ext 25 rfl (by kernel_rfl) rfl ?_
        intro ι U hne hU
        go_big_quiet_op
        clear hU hne U ι
        show wpAnyM _ _ _ _ _ _ _ _ _
        refine mix_quiet Keeps.ext 26 rfl (by kernel_rfl) rfl ?_
        intro ι U hne hU
        go_big_quiet_op
        clear hU hne U ι
        show wpAnyM _ _ _ _ _ _ _ _ _
        refine mix_end (by kernel_rfl) ?_
        have z0 := zr.cell 0 rfl
        have z1 := zr.cell 1 rfl
        have zl := zr.lt
        clear HQ hd1 hd2 hd3
        go_wp2_with (first | (at_make; refine Stop.un ?_) | (at_builtin; refine Stop.un ?_) | (with_reducible refine Stop.conv 24 9 ?_) | (with_reducible refine Stop.conv 9 24 ?_))
        go_loopw [6, 9, 10, 11, 64] (fun pl _ _ _ i wr => ∃ (i' q' : Nat), i' ≤ c ∧ q' ≤ f ∧ i = .int .i64 (i' : Int) ∧ pl = .int .i64 (q' : Int) ∧ Below w.heap.size w wr ∧ Cs wr ao (icells x) ∧ Cs wr (some ⟨b, o, none⟩) (rcells rs) ∧ At wr g #[.int .i64 n, .int .i64 c] 34 ∧ Hid (q' = q + i')) (fun _ _ _ _ i _ => c - (intOf i).toNat)
        case atStart => exact ⟨0, q, by omega, by omega, rfl, rfl, hb, hcx, hcs, zr, Lib.hid rfl⟩
        case round =>
          clear hb hcx hcs zr
          obtain ⟨i, q2, hi, hq2, rfl, rfl, hb, hcx, hcs, zr, HQ⟩ := hrel
          have z0 := zr.cell 0 rfl
          have z1 := zr.cell 1 rfl
          have zl := zr.lt
          by_cases hlt2 : i < c
          ·
            obtain ⟨e1, e2, e3, e4⟩ := HPL.out i hlt2
            rw [← HQ.out] at e1 e2 e3 e4
            have hq3 : q2 < f := by have := HQ.out; omega
            have hA := HAT.out (q2 : Int) _ hcs
            rw [e1, e2, e3] at hA
            have HA2 := Lib.hid hA
            have HX4 := Lib.hid e4
            clear hA e1 e2 e3 e4
            go_wp2_with (first | (at_make; refine Stop.un ?_) | (at_builtin; refine Stop.un ?_) | (with_reducible refine Stop.conv 24 9 ?_) | (with_reducible refine Stop.conv 9 24 ?_))
            refine HA2.out.mono ?_
            rintro e w5 ⟨rfl, b5⟩
            replace hb := hb.next b5
            replace hcx := hcx.mono b5 (Nat.le_refl _)
            replace hcs := hcs.mono b5 (Nat.le_refl _)
            replace zr := zr.mono b5
            clear b5 HA2 z0 z1 zl
            have z0 := zr.cell 0 rfl
            have z1 := zr.cell 1 rfl
            have zl := zr.lt
            obtain ⟨b', o', rfl⟩ := hcx.addr (by rw [icells_length, HX.out]; omega)
            have xc : w5.cell? ⟨b', o' + q2, none⟩ = some (.int .i64 n) := hcx.at (by simp [icells, HX4.out])
            have hb1 : (n != n) = false := by simp
            have hb2 : (((j : Nat) : Int) != ((j : Nat) : Int)) = false := by simp
            clear HX4
            go_wp2_with (first | (at_make; refine Stop.un ?_) | (at_builtin; refine Stop.un ?_) | (with_reducible refine Stop.conv 24 9 ?_) | (with_reducible refine Stop.conv 9 24 ?_))
            go_roundw
            case rel => exact ⟨i + 1, q2 + 1, by omega, by omega, by go_num, by go_num, hb, hcx, hcs, zr, Lib.hid (by have := HQ.out; omega)⟩
            case measure => simp [intOf]; omega
          ·
            have hic : i = c := by omega
            subst hic
            go_wp2_with (first | (at_make; refine Stop.un ?_) | (at_builtin; refine Stop.un ?_) | (with_reducible refine Stop.conv 24 9 ?_) | (with_reducible refine Stop.conv 9 24 ?_))
            go_roundw
            case rel => exact ⟨j + 1, q2, by omega, by omega, by go_num, rfl, hb, hcx, hcs, Lib.hid (by rw [HTK.out, HQ.out]; omega)⟩
            case measure => simp [intOf]; omega
    · have hjn : j = n1 := by omega
      have hq2 := HQ.out
      rw [List.take_of_length_le (by have := H1.out; omega), HT.out, HX.out] at hq2
      have hqf : q = f := by omega
      have hok : atOk rs (q : Int) = false := by
        unfold atOk
        rw [HT.out, HX.out]; simp; omega
      have hA := HAT.out (q : Int) _ hcs
      rw [hok] at hA
      have HA2 := Lib.hid hA
      subst hqf
      have hff : ((q : Int) == (q : Int)) = true := by simp
      clear hA hq2 hok HQ
      go_wp2_with (first | (at_make; refine Stop.un ?_) | (at_builtin; refine Stop.un ?_) | (with_reducible refine Stop.conv 24 9 ?_) | (with_reducible refine Stop.conv 9 24 ?_))
      refine HA2.out.mono ?_
      rintro e w5 ⟨rfl, b5⟩
      replace hb := hb.next b5
      clear b5 HA2
      go_wp2_with (first | (at_make; refine Stop.un ?_) | (at_builtin; refine Stop.un ?_) | (with_reducible refine Stop.conv 24 9 ?_) | (with_reducible refine Stop.conv 9 24 ?_))
      go_ret
      exact ⟨rfl, hb⟩
end Go.Proofs.Ytkgcjafediimnaa
