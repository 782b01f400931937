/- The reference's Next. -/
import Derived.Test.YtfhlbiddhgkcpaaLosD
set_option linter.unusedVariables false
set_option linter.unusedSimpArgs false
namespace Go.Proofs.Ytfhlbiddhgkcpaa
open Go.RowKit
section
variable (ks : List Ky)
theorem nxt_none_is {H : List (Option (List V))} (hn : nxt ks H = none) : ∀ u, gt H u = none := by
  intro u
  cases e : gt H u with
  | none => rfl
  | some y =>
    exfalso
    have hu : u < H.length := gt_lt (by rw [e]; rfl)
    have : ∀ n, n ≤ H.length → (∃ w, w < n ∧ (gt H w).isSome = true) → ∃ w, w < n ∧ (gt H w).isSome = true ∧ ∀ v, v < n → btB ks H v w = false := by
      intro n
      induction n with
      | zero => rintro _ ⟨w, hw, _⟩; omega
      | succ n ih =>
        rintro hn1 ⟨w, hw, hws⟩
        by_cases hold : ∃ w, w < n ∧ (gt H w).isSome = true
        · obtain ⟨w1, k1, k2, k3⟩ := ih (by omega) hold
          cases hb : btB ks H n w1 with
          | false => exact ⟨w1, by omega, k2, fun v hv => by
              rcases Nat.lt_or_ge v n with h5 | h5
              · exact k3 v h5
              · rw [show v = n by omega]; exact hb⟩
          | true => exact ⟨n, by omega, by
              unfold btB at hb
              cases e1 : gt H n with
              | none => rw [e1] at hb; cases hb
              | some _ => rfl, fun v hv => by
              rcases Nat.lt_or_ge v n with h5 | h5
              · exact bt_tr ks H v w1 n (k3 v h5) (bt_asym hb)
              · rw [show v = n by omega]; exact bt_irr ks H n⟩
        · have hwn : w = n := by
            rcases Nat.lt_or_ge w n with h5 | h5
            · exact absurd ⟨w, h5, hws⟩ hold
            · omega
          subst hwn
          refine ⟨w, by omega, hws, fun v hv => ?_⟩
          rcases Nat.lt_or_ge v w with h5 | h5
          · have h6 : gt H v = none := by
              cases e1 : gt H v with
              | none => rfl
              | some _ => exact absurd ⟨v, h5, by rw [e1]; rfl⟩ hold
            unfold btB
            rw [h6]
          · rw [show v = w by omega]; exact bt_irr ks H w
    obtain ⟨w, _, k2, k3⟩ := this H.length (Nat.le_refl _) ⟨u, hu, by rw [e]; rfl⟩
    rw [nxt_some ks H w k2 k3] at hn
    cases hn
theorem gt_app_l {H : List (Option (List V))} {x : Option (List V)} {u : Nat} (h : u < H.length) : gt (H ++ [x]) u = gt H u := by
  unfold gt
  rw [List.getD_eq_getElem?_getD, List.getD_eq_getElem?_getD, List.getElem?_append_left h]
theorem gt_app_r {H : List (Option (List V))} {x : Option (List V)} : gt (H ++ [x]) H.length = x := by
  unfold gt
  rw [List.getD_eq_getElem?_getD, List.getElem?_append_right (Nat.le_refl _), Nat.sub_self]
  rfl
def stepO (j : Nat) (g : Nat → Option (List V)) : Option (List V) → Option Nat → Option Nat
  | none, o => o
  | some _, none => some j
  | some y, some b => match g b with
    | none => some b
    | some z => if cmpR y z ks < 0 then some j else some b
/-- One list more is looked at. -/
theorem nxt_snoc (H : List (Option (List V))) (x : Option (List V)) : nxt ks (H ++ [x]) = stepO ks H.length (gt H) x (nxt ks H) := by
  have hl : (H ++ [x]).length = H.length + 1 := by simp
  have hbl : ∀ u w, u < H.length → w < H.length → btB ks (H ++ [x]) u w = btB ks H u w := fun u w hu hw => bt_same (gt_app_l hu) (gt_app_l hw)
  cases hn : nxt ks H with
  | none =>
    have hall := nxt_none_is ks hn
    cases x with
    | none =>
      refine nxt_none ks _ (fun u hu => ?_)
      rcases Nat.lt_or_ge u H.length with h1 | h1
      · rw [gt_app_l h1]; exact hall u
      · rw [show u = H.length by omega]; exact gt_app_r
    | some y =>
      refine nxt_some ks _ H.length (by rw [gt_app_r]; rfl) (fun u hu => ?_)
      rcases Nat.lt_or_ge u H.length with h1 | h1
      · unfold btB
        rw [gt_app_l h1, hall u]
      · rw [show u = H.length by omega]; exact bt_irr ks _ _
  | some b =>
    obtain ⟨h1, h2, h3⟩ := nxt_is ks H hn
    obtain ⟨z, hz⟩ := Option.isSome_iff_exists.1 h1
    cases x with
    | none =>
      refine nxt_some ks _ b (by rw [gt_app_l h2]; exact h1) (fun u hu => ?_)
      rcases Nat.lt_or_ge u H.length with h4 | h4
      · rw [hbl u b h4 h2]; exact h3 u h4
      · unfold btB
        rw [show u = H.length by omega, gt_app_r]
    | some y =>
      simp only [stepO, hz]
      have hbn : btB ks (H ++ [some y]) H.length b = decide (cmpR y z ks < 0) := by
        unfold btB
        rw [gt_app_r, gt_app_l h2, hz]
        simp only
        rw [decide_eq_false (show ¬ H.length < b by omega), Bool.and_false, Bool.or_false]
      by_cases hc : cmpR y z ks < 0
      · rw [if_pos hc]
        rw [decide_eq_true hc] at hbn
        refine nxt_some ks _ H.length (by rw [gt_app_r]; rfl) (fun u hu => ?_)
        rcases Nat.lt_or_ge u H.length with h4 | h4
        · exact bt_tr ks _ u b H.length (by rw [hbl u b h4 h2]; exact h3 u h4) (bt_asym hbn)
        · rw [show u = H.length by omega]; exact bt_irr ks _ _
      · rw [if_neg hc]
        rw [decide_eq_false hc] at hbn
        refine nxt_some ks _ b (by rw [gt_app_l h2]; exact h1) (fun u hu => ?_)
        rcases Nat.lt_or_ge u H.length with h4 | h4
        · rw [hbl u b h4 h2]; exact h3 u h4
        · rw [show u = H.length by omega]; exact hbn
end
theorem exec_nnil1 {ρ : Operand → Value} {x y : Operand} {dst : Option Tmp} {T2 ty : TypeId} {pos : String} {af : Array Edge} {g : Option (Nat × Bool)} (ao : Addr) (n cap : Nat) (hx : ρ x = .slice (some ao) n cap) (hy : ρ y = .slice none 0 0) (w : World) :
    (execOp ρ ⟨dst, .binOp .neq 26 x y T2, ty, pos, af, g⟩).run Try.prog w = .ok (.value (.bool true)) w := exec_nnilR (some ao) n cap hx hy w
theorem exec_nnil0 {ρ : Operand → Value} {x y : Operand} {dst : Option Tmp} {T2 ty : TypeId} {pos : String} {af : Array Edge} {g : Option (Nat × Bool)} (n cap : Nat) (hx : ρ x = .slice none n cap) (hy : ρ y = .slice none 0 0) (w : World) :
    (execOp ρ ⟨dst, .binOp .neq 26 x y T2, ty, pos, af, g⟩).run Try.prog w = .ok (.value (.bool false)) w := exec_nnilR none n cap hx hy w
def bestV : Option Nat → Int
  | none => -1
  | some b => (b : Int)
set_option maxRecDepth 100000 in
set_option maxHeartbeats 8000000 in
theorem rnext_any (ao : Option Addr) (n cap : Nat) (rows : List Rw) (ak : Option Addr) (p ck : Nat) (ks : List Ky) (w : World) (t : Tab w ao rows) (hn : rows.length = n) (hnc : n ≤ cap) (hcap : cap ≤ maxLen)
    (hk : Cs w ak (kcells ks)) (hp : ks.length = p) (hlp : p ≤ ck) (hcm : ck ≤ maxLen) :
    Calls Try.prog 12 #[.slice ao n cap, .slice ak p ck] w (fun e w' => e = .returned (nextV (nxt ks (hds rows))) ∧ Below w.heap.size w w') := by
  unfold maxLen at hcap
  have HN := Lib.hid hn
  have HC := Lib.hid (fun (r r2 : Rw) W h1 h2 kx => orcompare_any r.a r.n r.cap r.l r2.a r2.n r2.cap r2.l ak p ck ks W h1 h2 kx hp hlp hcm)
  clear hn hp hlp hcm
  go_enter Try.func12, Try.ntmps12
  go_wp2_with (first | (at_make; refine Stop.un ?_) | (at_builtin; refine Stop.un ?_))
  go_loopw [7, 6] (fun i v wr => ∃ (j : Nat) (o : Option Nat), j ≤ n ∧ i = .int .i64 (j : Int) ∧ v = .int .i64 (bestV o) ∧ Below w.heap.size w wr ∧ Hid (o = nxt ks (hds (rows.take j)))) (fun i _ _ => n - (intOf i).toNat)
  case atStart => exact ⟨0, none, Nat.zero_le _, rfl, rfl, Below.refl _ _, Lib.hid rfl⟩
  case round =>
    obtain ⟨j, o, hj, rfl, rfl, BB, HO⟩ := hrel
    by_cases hlt : j < n
    · have hjl : j < rows.length := by have := HN.out; omega
      have t2 := t.mono BB
      obtain ⟨b, of, rfl⟩ := t2.cs.addr (by rw [rwcells_length]; omega)
      have x0 := t2.at hjl
      have rk := t2.ok rows[j] (List.getElem_mem _)
      have kx := hk.mono BB (Nat.le_refl _)
      have hs : hds (rows.take (j + 1)) = hds (rows.take j) ++ [hd rows[j]] := by
        rw [List.take_succ_eq_append_getElem hjl]
        unfold hds
        rw [List.map_append]
        rfl
      have hlen : (hds (rows.take j)).length = j := by rw [hds_length, List.length_take]; omega
      have HS : Hid (nxt ks (hds (rows.take (j + 1))) = stepO ks j (fun b => hd (rw rows b)) (hd rows[j]) o) := Lib.hid (by
        rw [hs, nxt_snoc, hlen, ← HO.out]
        cases hd rows[j] with
        | none => rfl
        | some y =>
          cases ho : o with
          | none => rfl
          | some b =>
            have h2 := (nxt_is ks _ (HO.out.symm.trans ho)).2.1
            rw [hlen] at h2
            have : gt (hds (rows.take j)) b = hd (rw rows b) := by
              rw [gt_hds, rw_in (show b < (rows.take j).length by rw [List.length_take]; omega), rw_in (show b < rows.length by omega)]
              simp
            simp only [stepO, this])
      have HOB : Hid (∀ b, o = some b → b < j ∧ (hd (rw rows b)).isSome = true) := Lib.hid (fun b hb => by
        have h2 := nxt_is ks _ (HO.out.symm.trans hb)
        have h3 := h2.2.1
        rw [hlen] at h3
        refine ⟨h3, ?_⟩
        have h4 := h2.1
        rw [gt_hds, rw_in (show b < (rows.take j).length by rw [List.length_take]; omega)] at h4
        rw [rw_in (show b < rows.length by omega)]
        simpa using h4)
      generalize rows[j] = r at x0 rk HS
      obtain ⟨ra, rn, rc, rl⟩ := r
      simp only at x0
      clear hs hlen hjl
      cases ra with
      | none =>
        have HN2 : Hid (o = nxt ks (hds (rows.take (j + 1)))) := Lib.hid HS.out.symm
        clear HS HOB HO rk kx
        go_upto_region 5 with fail
        refine mix_startE 22 rfl (by kernel_rfl) ?_
        intro xq hxq
        replace BB := Below.next BB hxq
        replace x0 := Ext.cell hxq x0
        clear hxq
        refine mix_quiet Keeps.ext 0 rfl (by kernel_rfl) rfl ?_
        intro ι U hne hU
        go_big_quiet_op
        clear hU hne U ι
        show wpAnyM _ _ _ _ _ _ _ _ _
        refine mix_quiet Keeps.ext 1 rfl (by kernel_rfl) rfl ?_
        intro ι U hne hU
        go_big_quiet_op
        clear hU hne U ι
        show wpAnyM _ _ _ _ _ _ _ _ _
        refine mix_quiet Keeps.ext 2 rfl (by kernel_rfl) rfl ?_
        intro ι U hne hU
        go_big_quiet_op
        clear hU hne U ι
        show wpAnyM _ _ _ _ _ _ _ _ _
        refine mix_quiet Keeps.ext 3 rfl (by kernel_rfl) rfl ?_
        intro ι U hne hU
        have hcw0 := fun ii => (hU ii).cell x0
        go_big_quiet_op
        clear hU hne hcw0 U ι
        show wpAnyM _ _ _ _ _ _ _ _ _
        refine mix_quiet Keeps.ext 4 rfl (by kernel_rfl) rfl ?_
        intro ι U hne hU
        refine quiet_as _ (exec_nnil0 _ _ rfl rfl) (hne.elim fun ii => ⟨_, ii, rfl⟩) ?_
        go_big_quiet_op
        clear hU hne U ι
        show wpAnyM _ _ _ _ _ _ _ _ _
        refine mix_quiet Keeps.ext 5 rfl (by kernel_rfl) rfl ?_
        intro ι U hne hU
        go_big_quiet_op
        clear hU hne U ι
        show wpAnyM _ _ _ _ _ _ _ _ _
        refine mix_skip Keeps.ext 6 rfl (by kernel_rfl) rfl ?_
        go_big_quiet_skip
        refine wpQuiet_nil ?_
        show wpAnyM _ _ _ _ _ _ _ _ _
        refine mix_skip Keeps.ext 7 rfl (by kernel_rfl) rfl ?_
        go_big_quiet_skip
        refine wpQuiet_nil ?_
        show wpAnyM _ _ _ _ _ _ _ _ _
        refine mix_skip Keeps.ext 8 rfl (by kernel_rfl) rfl ?_
        go_big_quiet_skip
        refine wpQuiet_nil ?_
        show wpAnyM _ _ _ _ _ _ _ _ _
        refine mix_skip Keeps.ext 9 rfl (by kernel_rfl) rfl ?_
        go_big_quiet_skip
        refine wpQuiet_nil ?_
        show wpAnyM _ _ _ _ _ _ _ _ _
        refine mix_skip Keeps.ext 10 rfl (by kernel_rfl) rfl ?_
        go_big_quiet_skip
        refine wpQuiet_nil ?_
        show wpAnyM _ _ _ _ _ _ _ _ _
        refine mix_skip Keeps.ext 11 rfl (by kernel_rfl) rfl ?_
        go_big_quiet_skip
        refine wpQuiet_nil ?_
        show wpAnyM _ _ _ _ _ _ _ _ _
        refine mix_skip Keeps.ext 12 rfl (by kernel_rfl) rfl ?_
        go_big_quiet_skip
        refine wpQuiet_nil ?_
        show wpAnyM _ _ _ _ _ _ _ _ _
        refine mix_skip Keeps.ext 13 rfl (by kernel_rfl) rfl ?_
        go_big_quiet_skip
        refine wpQuiet_nil ?_
        show wpAnyM _ _ _ _ _ _ _ _ _
        refine mix_skip Keeps.ext 14 rfl (by kernel_rfl) rfl ?_
        go_big_quiet_skip
        refine wpQuiet_nil ?_
        show wpAnyM _ _ _ _ _ _ _ _ _
        refine mix_skip Keeps.ext 15 rfl (by kernel_rfl) rfl ?_
        go_big_quiet_skip
        refine wpQuiet_nil ?_
        show wpAnyM _ _ _ _ _ _ _ _ _
        refine mix_skip Keeps.ext 16 rfl (by kernel_rfl) rfl ?_
        go_big_quiet_skip
        refine wpQuiet_nil ?_
        show wpAnyM _ _ _ _ _ _ _ _ _
        refine mix_skip Keeps.ext 17 rfl (by kernel_rfl) rfl ?_
        go_big_quiet_skip
        refine wpQuiet_nil ?_
        show wpAnyM _ _ _ _ _ _ _ _ _
        refine mix_skip Keeps.ext 18 rfl (by kernel_rfl) rfl ?_
        go_big_quiet_skip
        refine wpQuiet_nil ?_
        show wpAnyM _ _ _ _ _ _ _ _ _
        refine mix_skip Keeps.ext 19 rfl (by kernel_rfl) rfl ?_
        go_big_quiet_skip
        refine wpQuiet_nil ?_
        show wpAnyM _ _ _ _ _ _ _ _ _
        refine mix_skip Keeps.ext 20 rfl (by kernel_rfl) rfl ?_
        go_big_quiet_skip
        refine wpQuiet_nil ?_
        show wpAnyM _ _ _ _ _ _ _ _ _
        refine mix_quiet Keeps.ext 21 rfl (by kernel_rfl) rfl ?_
        intro ι U hne hU
        go_big_quiet_op
        clear hU hne U ι
        show wpAnyM _ _ _ _ _ _ _ _ _
        refine mix_end (by kernel_rfl) ?_
        clear x0 t2
        go_wp2_with (first | (at_make; refine Stop.un ?_) | (at_builtin; refine Stop.un ?_))
        go_roundw
        case rel => exact ⟨j + 1, o, by omega, by go_num, rfl, BB, HN2⟩
        case measure => simp [intOf]; omega
      | some rad =>
        cases o with
        | none =>
          have HN2 : Hid (some j = nxt ks (hds (rows.take (j + 1)))) := Lib.hid HS.out.symm
          clear HS HOB HO rk kx
          unfold bestV
          go_upto_region 5 with fail
          refine mix_startE 22 rfl (by kernel_rfl) ?_
          intro xq hxq
          replace BB := Below.next BB hxq
          replace x0 := Ext.cell hxq x0
          clear hxq
          refine mix_quiet Keeps.ext 0 rfl (by kernel_rfl) rfl ?_
          intro ι U hne hU
          go_big_quiet_op
          clear hU hne U ι
          show wpAnyM _ _ _ _ _ _ _ _ _
          refine mix_quiet Keeps.ext 1 rfl (by kernel_rfl) rfl ?_
          intro ι U hne hU
          go_big_quiet_op
          clear hU hne U ι
          show wpAnyM _ _ _ _ _ _ _ _ _
          refine mix_quiet Keeps.ext 2 rfl (by kernel_rfl) rfl ?_
          intro ι U hne hU
          go_big_quiet_op
          clear hU hne U ι
          show wpAnyM _ _ _ _ _ _ _ _ _
          refine mix_quiet Keeps.ext 3 rfl (by kernel_rfl) rfl ?_
          intro ι U hne hU
          have hcw0 := fun ii => (hU ii).cell x0
          go_big_quiet_op
          clear hU hne hcw0 U ι
          show wpAnyM _ _ _ _ _ _ _ _ _
          refine mix_quiet Keeps.ext 4 rfl (by kernel_rfl) rfl ?_
          intro ι U hne hU
          refine quiet_as _ (exec_nnil1 _ _ _ rfl rfl) (hne.elim fun ii => ⟨_, ii, rfl⟩) ?_
          go_big_quiet_op
          clear hU hne U ι
          show wpAnyM _ _ _ _ _ _ _ _ _
          refine mix_quiet Keeps.ext 5 rfl (by kernel_rfl) rfl ?_
          intro ι U hne hU
          go_big_quiet_op
          clear hU hne U ι
          show wpAnyM _ _ _ _ _ _ _ _ _
          refine mix_quiet Keeps.ext 6 rfl (by kernel_rfl) rfl ?_
          intro ι U hne hU
          go_big_quiet_op
          clear hU hne U ι
          show wpAnyM _ _ _ _ _ _ _ _ _
          refine mix_quiet Keeps.ext 7 rfl (by kernel_rfl) rfl ?_
          intro ι U hne hU
          go_big_quiet_op
          clear hU hne U ι
          show wpAnyM _ _ _ _ _ _ _ _ _
          refine mix_quiet Keeps.ext 8 rfl (by kernel_rfl) rfl ?_
          intro ι U hne hU
          go_big_quiet_op
          clear hU hne U ι
          show wpAnyM _ _ _ _ _ _ _ _ _
          refine mix_skip Keeps.ext 9 rfl (by kernel_rfl) rfl ?_
          go_big_quiet_skip
          refine wpQuiet_nil ?_
          show wpAnyM _ _ _ _ _ _ _ _ _
          refine mix_skip Keeps.ext 10 rfl (by kernel_rfl) rfl ?_
          go_big_quiet_skip
          refine wpQuiet_nil ?_
          show wpAnyM _ _ _ _ _ _ _ _ _
          refine mix_skip Keeps.ext 11 rfl (by kernel_rfl) rfl ?_
          go_big_quiet_skip
          refine wpQuiet_nil ?_
          show wpAnyM _ _ _ _ _ _ _ _ _
          refine mix_skip Keeps.ext 12 rfl (by kernel_rfl) rfl ?_
          go_big_quiet_skip
          refine wpQuiet_nil ?_
          show wpAnyM _ _ _ _ _ _ _ _ _
          refine mix_skip Keeps.ext 13 rfl (by kernel_rfl) rfl ?_
          go_big_quiet_skip
          refine wpQuiet_nil ?_
          show wpAnyM _ _ _ _ _ _ _ _ _
          refine mix_skip Keeps.ext 14 rfl (by kernel_rfl) rfl ?_
          go_big_quiet_skip
          refine wpQuiet_nil ?_
          show wpAnyM _ _ _ _ _ _ _ _ _
          refine mix_skip Keeps.ext 15 rfl (by kernel_rfl) rfl ?_
          go_big_quiet_skip
          refine wpQuiet_nil ?_
          show wpAnyM _ _ _ _ _ _ _ _ _
          refine mix_skip Keeps.ext 16 rfl (by kernel_rfl) rfl ?_
          go_big_quiet_skip
          refine wpQuiet_nil ?_
          show wpAnyM _ _ _ _ _ _ _ _ _
          refine mix_skip Keeps.ext 17 rfl (by kernel_rfl) rfl ?_
          go_big_quiet_skip
          refine wpQuiet_nil ?_
          show wpAnyM _ _ _ _ _ _ _ _ _
          refine mix_skip Keeps.ext 18 rfl (by kernel_rfl) rfl ?_
          go_big_quiet_skip
          refine wpQuiet_nil ?_
          show wpAnyM _ _ _ _ _ _ _ _ _
          refine mix_skip Keeps.ext 19 rfl (by kernel_rfl) rfl ?_
          go_big_quiet_skip
          refine wpQuiet_nil ?_
          show wpAnyM _ _ _ _ _ _ _ _ _
          refine mix_quiet Keeps.ext 20 rfl (by kernel_rfl) rfl ?_
          intro ι U hne hU
          go_big_quiet_op
          clear hU hne U ι
          show wpAnyM _ _ _ _ _ _ _ _ _
          refine mix_quiet Keeps.ext 21 rfl (by kernel_rfl) rfl ?_
          intro ι U hne hU
          go_big_quiet_op
          clear hU hne U ι
          show wpAnyM _ _ _ _ _ _ _ _ _
          refine mix_end (by kernel_rfl) ?_
          clear x0 t2
          go_wp2_with (first | (at_make; refine Stop.un ?_) | (at_builtin; refine Stop.un ?_))
          go_roundw
          case rel => exact ⟨j + 1, some j, by omega, by go_num, rfl, BB, HN2⟩
          case measure => simp [intOf]; omega
        | some bb =>
          obtain ⟨hbj, hbs⟩ := HOB.out bb rfl
          have hbl : bb < rows.length := by have := HN.out; omega
          have y0 := t2.at hbl
          have sk := t2.ok rows[bb] (List.getElem_mem _)
          have hrb : rw rows bb = rows[bb] := rw_in hbl
          have hss := HS.out
          have hss2 : nxt ks (hds (rows.take (j + 1))) = stepO ks j (fun _ => hd rows[bb]) (some rl) (some bb) := by
            rw [hss]
            show stepO ks j (fun b => hd (rw rows b)) (some rl) (some bb) = _
            simp only [stepO, hrb]
          rw [hrb] at hbs
          clear hss
          generalize rows[bb] = s at y0 sk hss2 hbs
          obtain ⟨sa, sn, sc, sl⟩ := s
          simp only at y0
          cases sa with
          | none => cases hbs
          | some sad =>
            have HSS : Hid (nxt ks (hds (rows.take (j + 1))) = if cmpR rl sl ks < 0 then some j else some bb) := Lib.hid hss2
            have HC2 := Lib.hid (fun W (o1 : RowOk W ⟨some rad, rn, rc, rl⟩) (o2 : RowOk W ⟨some sad, sn, sc, sl⟩) kx => HC.out ⟨some rad, rn, rc, rl⟩ ⟨some sad, sn, sc, sl⟩ W o1 o2 kx)
            simp only at HC2
            generalize cmpR rl sl ks = c at HSS HC2
            have hb0 : decide ((bb : Int) < 0) = false := decide_eq_false (by omega)
            have hm1 : ((bb : Int) < 0) = False := by simp
            clear hss2 hrb hbs HS HOB HO hbl
            unfold bestV
            go_upto_region 5 with fail
            refine mix_startE 22 rfl (by kernel_rfl) ?_
            intro xq hxq
            replace BB := Below.next BB hxq
            replace x0 := Ext.cell hxq x0
            replace y0 := Ext.cell hxq y0
            replace rk := RowOk.mono rk hxq
            replace sk := RowOk.mono sk hxq
            replace kx := Cs.mono kx hxq (Nat.le_refl _)
            clear hxq
            refine mix_quiet Keeps.ext 0 rfl (by kernel_rfl) rfl ?_
            intro ι U hne hU
            go_big_quiet_op
            clear hU hne U ι
            show wpAnyM _ _ _ _ _ _ _ _ _
            refine mix_quiet Keeps.ext 1 rfl (by kernel_rfl) rfl ?_
            intro ι U hne hU
            go_big_quiet_op
            clear hU hne U ι
            show wpAnyM _ _ _ _ _ _ _ _ _
            refine mix_quiet Keeps.ext 2 rfl (by kernel_rfl) rfl ?_
            intro ι U hne hU
            go_big_quiet_op
            clear hU hne U ι
            show wpAnyM _ _ _ _ _ _ _ _ _
            refine mix_quiet Keeps.ext 3 rfl (by kernel_rfl) rfl ?_
            intro ι U hne hU
            have hcw0 := fun ii => (hU ii).cell x0
            have hcw1 := fun ii => (hU ii).cell y0
            go_big_quiet_op
            clear hU hne hcw0 hcw1 U ι
            show wpAnyM _ _ _ _ _ _ _ _ _
            refine mix_quiet Keeps.ext 4 rfl (by kernel_rfl) rfl ?_
            intro ι U hne hU
            refine quiet_as _ (exec_nnil1 _ _ _ rfl rfl) (hne.elim fun ii => ⟨_, ii, rfl⟩) ?_
            go_big_quiet_op
            clear hU hne U ι
            show wpAnyM _ _ _ _ _ _ _ _ _
            refine mix_quiet Keeps.ext 5 rfl (by kernel_rfl) rfl ?_
            intro ι U hne hU
            go_big_quiet_op
            clear hU hne U ι
            show wpAnyM _ _ _ _ _ _ _ _ _
            refine mix_quiet Keeps.ext 6 rfl (by kernel_rfl) rfl ?_
            intro ι U hne hU
            go_big_quiet_op
            clear hU hne U ι
            show wpAnyM _ _ _ _ _ _ _ _ _
            refine mix_quiet Keeps.ext 7 rfl (by kernel_rfl) rfl ?_
            intro ι U hne hU
            go_big_quiet_op
            clear hU hne U ι
            show wpAnyM _ _ _ _ _ _ _ _ _
            refine mix_quiet Keeps.ext 8 rfl (by kernel_rfl) rfl ?_
            intro ι U hne hU
            go_big_quiet_op
            clear hU hne U ι
            show wpAnyM _ _ _ _ _ _ _ _ _
            refine mix_quiet Keeps.ext 9 rfl (by kernel_rfl) rfl ?_
            intro ι U hne hU
            go_big_quiet_op
            clear hU hne U ι
            show wpAnyM _ _ _ _ _ _ _ _ _
            refine mix_quiet Keeps.ext 10 rfl (by kernel_rfl) rfl ?_
            intro ι U hne hU
            go_big_quiet_op
            clear hU hne U ι
            show wpAnyM _ _ _ _ _ _ _ _ _
            refine mix_quiet Keeps.ext 11 rfl (by kernel_rfl) rfl ?_
            intro ι U hne hU
            go_big_quiet_op
            clear hU hne U ι
            show wpAnyM _ _ _ _ _ _ _ _ _
            refine mix_quiet Keeps.ext 12 rfl (by kernel_rfl) rfl ?_
            intro ι U hne hU
            have hcw0 := fun ii => (hU ii).cell x0
            have hcw1 := fun ii => (hU ii).cell y0
            go_big_quiet_op
            clear hU hne hcw0 hcw1 U ι
            show wpAnyM _ _ _ _ _ _ _ _ _
            refine mix_quiet Keeps.ext 13 rfl (by kernel_rfl) rfl ?_
            intro ι U hne hU
            go_big_quiet_op
            clear hU hne U ι
            show wpAnyM _ _ _ _ _ _ _ _ _
            refine mix_quiet Keeps.ext 14 rfl (by kernel_rfl) rfl ?_
            intro ι U hne hU
            go_big_quiet_op
            clear hU hne U ι
            show wpAnyM _ _ _ _ _ _ _ _ _
            refine mix_quiet Keeps.ext 15 rfl (by kernel_rfl) rfl ?_
            intro ι U hne hU
            go_big_quiet_op
            clear hU hne U ι
            show wpAnyM _ _ _ _ _ _ _ _ _
            refine mix_quiet Keeps.ext 16 rfl (by kernel_rfl) rfl ?_
            intro ι U hne hU
            have hcw0 := fun ii => (hU ii).cell x0
            have hcw1 := fun ii => (hU ii).cell y0
            go_big_quiet_op
            clear hU hne hcw0 hcw1 U ι
            show wpAnyM _ _ _ _ _ _ _ _ _
            refine mix_quiet Keeps.ext 17 rfl (by kernel_rfl) rfl ?_
            intro ι U hne hU
            go_big_quiet_op
            clear hU hne U ι
            show wpAnyM _ _ _ _ _ _ _ _ _
            refine mix_any 18 rfl (by kernel_rfl) rfl ?_
            go_wp2_with (first | (at_make; refine Stop.un ?_) | (at_builtin; refine Stop.un ?_))
            refine (HC2.out _ rk sk kx).mono ?_
            rintro e wz ⟨rfl, bz⟩
            go_wp2_with (first | (at_make; refine Stop.un ?_) | (at_builtin; refine Stop.un ?_))
            refine MixPost.mk bz ?_
            replace BB := Below.next BB bz
            replace x0 := Ext.cell bz x0
            replace y0 := Ext.cell bz y0
            replace rk := RowOk.mono rk bz
            replace sk := RowOk.mono sk bz
            replace kx := Cs.mono kx bz (Nat.le_refl _)
            clear bz
            refine mix_quiet Keeps.ext 19 rfl (by kernel_rfl) rfl ?_
            intro ι U hne hU
            go_big_quiet_op
            clear hU hne U ι
            show wpAnyM _ _ _ _ _ _ _ _ _
            refine mix_quiet Keeps.ext 20 rfl (by kernel_rfl) rfl ?_
            intro ι U hne hU
            go_big_quiet_op
            clear hU hne U ι
            show wpAnyM _ _ _ _ _ _ _ _ _
            refine mix_quiet Keeps.ext 21 rfl (by kernel_rfl) rfl ?_
            intro ι U hne hU
            go_big_quiet_op
            clear hU hne U ι
            show wpAnyM _ _ _ _ _ _ _ _ _
            refine mix_end (by kernel_rfl) ?_
            clear x0 y0 t2 rk sk kx HC2
            by_cases hc : c < 0
            ·
              have HN2 : Hid (some j = nxt ks (hds (rows.take (j + 1)))) := Lib.hid (by rw [HSS.out, if_pos hc])
              have hdc : decide (c < 0) = true := decide_eq_true hc
              clear HSS
              go_wp2_with (first | (at_make; refine Stop.un ?_) | (at_builtin; refine Stop.un ?_))
              go_roundw
              case rel => exact ⟨j + 1, some j, by omega, by go_num, rfl, BB, HN2⟩
              case measure => simp [intOf]; omega
            ·
              have HN2 : Hid (some bb = nxt ks (hds (rows.take (j + 1)))) := Lib.hid (by rw [HSS.out, if_neg hc])
              have hdc : decide (c < 0) = false := decide_eq_false hc
              clear HSS
              go_wp2_with (first | (at_make; refine Stop.un ?_) | (at_builtin; refine Stop.un ?_))
              go_roundw
              case rel => exact ⟨j + 1, some bb, by omega, by go_num, rfl, BB, HN2⟩
              case measure => simp [intOf]; omega
    · obtain rfl : j = n := by omega
      have HO2 : Hid (nxt ks (hds rows) = o) := Lib.hid (by rw [HO.out, List.take_of_length_le (by have := HN.out; omega)])
      cases o with
      | none =>
        unfold bestV
        go_wp2_with (first | (at_make; refine Stop.un ?_) | (at_builtin; refine Stop.un ?_))
        exact bodyPost_ret (v := nextV none) (by simp [results, Try.results12, go_sem, nextV]) rfl ⟨by rw [HO2.out], BB⟩
      | some bb =>
        unfold bestV
        have hb0 : decide ((bb : Int) < 0) = false := decide_eq_false (by omega)
        go_wp2_with (first | (at_make; refine Stop.un ?_) | (at_builtin; refine Stop.un ?_))
        exact bodyPost_ret (v := nextV (some bb)) (by simp [results, Try.results12, go_sem, nextV]) rfl ⟨by rw [HO2.out], BB⟩
end Go.Proofs.Ytfhlbiddhgkcpaa
