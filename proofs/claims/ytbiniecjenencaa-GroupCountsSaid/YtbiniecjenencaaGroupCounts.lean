/- GroupCounts. -/
import Derived.Test.YtbiniecjenencaaGSet
import Derived.Test.YtbiniecjenencaaGCounts
set_option linter.unusedVariables false
set_option linter.unusedSimpArgs false
set_option maxRecDepth 10000
namespace Go.Proofs.Ytbiniecjenencaa
open Go.RowKit
theorem exec_takeRw {ρ : Operand → Value} {x hi : Operand} {dst : Option Tmp} {ty : TypeId} {pos : String} {af : Array Edge} {g : Option (Nat × Bool)} (ao : Option Addr) (n cap k : Nat) (hx : ρ x = .slice ao n cap) (hhi : ρ hi = .int .i64 (k : Int)) (hk : k ≤ n) (hn : n ≤ cap) (w : World) :
    (execOp ρ ⟨dst, .slice 36 x none (some hi) none, ty, pos, af, g⟩).run Try.prog w = .ok (.value (.slice ao k cap)) w := by
  have h1 : (k : Int) ≤ (cap : Int) := by omega
  have h3 : 0 ≤ (k : Int) := by omega
  have h4 : k ≤ cap := by omega
  simp [execOp, hx, hhi, go_sem, h1, h3, h4]
/-- What Rows returns where rows are counted. -/
theorem grp_count (kinds : List UInt8) (rows : List (List V)) (bs : List Int) :
    (∃ e, grpB kinds rows bs [⟨1, 0⟩] = (e, []) ∧ e ≠ 0) ∨
    ∃ gs : List (List (List V)), grpB kinds rows bs [⟨1, 0⟩] = (0, gs.map (fun g => hdOf bs (g.headD []) ++ [numG g.length])) ∧ (gs.map List.length).sum = rows.length ∧ (rows ≠ [] → ∀ g ∈ gs, g ≠ []) ∧ (bs = [] → gs.length = 1) ∧
      ∀ i (h : i + 1 < gs.length), hdOf bs (gs[i].headD []) ≠ hdOf bs (gs[i + 1].headD []) := by
  unfold grpB
  by_cases hE : kindsE kinds bs [⟨1, 0⟩] = 0
  · rw [if_pos hE]
    by_cases hf : rows.all (fitL kinds) = true
    · rw [if_pos hf]
      right
      have hl : (sortL (gkeys bs) rows).length = rows.length := by unfold sortL; exact sortB_length _ _
      refine ⟨pend bs (sortL (gkeys bs) rows) true, by rw [tell_count]; rfl, ?_⟩
      generalize sortL (gkeys bs) rows = S at hl
      unfold pend
      by_cases hp : bs = [] ∧ S = []
      · rw [if_pos ⟨hp, rfl⟩]
        have hr0 : rows = [] := List.eq_nil_of_length_eq_zero (by rw [← hl, hp.2]; rfl)
        refine ⟨by rw [hr0]; rfl, fun h => absurd hr0 h, fun _ => rfl, fun i h => by simp at h⟩
      · rw [if_neg (fun h => hp h.1)]
        refine ⟨?_, fun _ => runs_ne _ _, fun hb => ?_, fun i h e => ?_⟩
        · rw [← hl, ← List.length_flatten, runs_flat]
        · subst hb
          cases S with
          | nil => exact absurd ⟨rfl, rfl⟩ hp
          | cons r l =>
            have h1 := runs_cons (gkeys []) r l
            have h2 : l.dropWhile (eqK (gkeys []) r) = [] := by
              have : ∀ l : List (List V), l.dropWhile (eqK (gkeys []) r) = [] := by
                intro l
                induction l with
                | nil => rfl
                | cons a l ih => rw [List.dropWhile_cons, if_pos (show eqK (gkeys []) r a = true from rfl), ih]
              exact this l
            rw [h1, h2]
            rfl
        · have h1 := runs_adj (gkeys bs) S i h
          rw [eqK_of_hd bs _ _ e] at h1
          cases h1
    · rw [if_neg hf]
      exact .inl ⟨7, rfl, by decide⟩
  · rw [if_neg hE]
    exact .inl ⟨_, rfl, hE⟩
theorem Cs.left {w : World} {ao : Option Addr} {xs ys : List Value} (h : Cs w ao (xs ++ ys)) : Cs w ao xs := fun j u hj => h j u (by rw [List.getElem?_append_left (List.getElem?_eq_some_iff.1 hj).1]; exact hj)
theorem sum_take_le : ∀ (l : List Nat) (i : Nat), (l.take i).sum ≤ l.sum
  | [], i => by simp
  | a :: l, 0 => by simp
  | a :: l, i + 1 => by
    have := sum_take_le l i
    rw [List.take_succ_cons, List.sum_cons, List.sum_cons]
    omega
set_option maxRecDepth 100000 in
set_option maxHeartbeats 16000000 in
theorem groupCounts_any (x : GSt) (w : World) (h : StOk w x) :
    Calls Try.prog 3 #[x.val] w (fun e w' => e = .returned (.bool true) ∧ Below w.heap.size w w') := by
  have HFW := Lib.hid (fun W (h : StOk W x) => few_any22 x W h)
  obtain ⟨ka, kn, kc, kinds, ra, rn, rc, rows, ba, bn, bc, bs, ga, gn, gc, ags⟩ := x
  have z := At.new w #[.slice ka kn kc, .slice ra rn rc, .slice ba bn bc, .slice ga gn gc] 27
  have b0 := (Below.refl w.heap.size w).alloc (Nat.le_refl _) (.cells #[.slice ka kn kc, .slice ra rn rc, .slice ba bn bc, .slice ga gn gc] 27)
  have HOK := Lib.hid h
  have hkm : kn ≤ kc := h.km
  have hrm : rn ≤ rc := h.rm
  have hbm : bn ≤ bc := h.bm
  have hgm : gn ≤ gc := h.gm
  have hkx : kc ≤ 9223372036854775807 := h.kx
  have hrx : rc ≤ 9223372036854775807 := h.rx
  have hbx : bc ≤ 9223372036854775807 := h.bx
  have hgx : gc ≤ 9223372036854775807 := h.gx
  clear h
  simp only [GSt.val] at HFW ⊢
  go_enter Try.func3, Try.ntmps3
  go_upto_region 1 with fail
  generalize w.alloc (.cells #[.slice ka kn kc, .slice ra rn rc, .slice ba bn bc, .slice ga gn gc] 27) = wA at z b0 ⊢
  obtain ⟨gz, hgz⟩ : ∃ g, w.heap.size = g := ⟨_, rfl⟩
  rw [hgz] at z ⊢
  clear hgz
  go_wp2_with (first | (at_make; refine Stop.un ?_) | (at_builtin; refine Stop.un ?_) | (with_reducible refine Stop.conv 22 9 ?_) | (with_reducible refine Stop.conv 9 22 ?_))
  refine (shown_any22 _).mono ?_
  rintro e w1 ⟨rfl, bt⟩
  replace z := z.mono bt
  replace b0 := b0.next bt
  clear bt
  have c0 := z.cell 0 rfl
  have c1 := z.cell 1 rfl
  have c2 := z.cell 2 rfl
  have c3 := z.cell 3 rfl
  have HF1 := Lib.hid (HFW.out w1 (HOK.out.mono b0))
  clear HFW
  go_wp2_with (first | (at_make; refine Stop.un ?_) | (at_builtin; refine Stop.un ?_) | (with_reducible refine Stop.conv 22 9 ?_) | (with_reducible refine Stop.conv 9 22 ?_))
  refine HF1.out.mono ?_
  rintro e w2 ⟨q, rfl, bt, hq⟩
  replace z := z.mono bt
  replace b0 := b0.next bt
  clear bt HF1 c0 c1 c2 c3
  have c2 := z.cell 2 rfl
  cases q with
  | false =>
    clear hq
    go_wp2_with (first | (at_make; refine Stop.un ?_) | (at_builtin; refine Stop.un ?_) | (with_reducible refine Stop.conv 22 9 ?_) | (with_reducible refine Stop.conv 9 22 ?_))
    go_ret
    exact ⟨by first | rfl | simp, b0⟩
  | true =>
    have hF := hq rfl
    have hkn : kn ≤ 12 := hF.k
    have hbn : bn ≤ 12 := hF.b
    have hrn : rn ≤ 60 := hF.r
    have HFW := Lib.hid hF.w
    clear hq hF
    by_cases h7 : 7 < bn
    · have d7 : decide ((7 : Int) < (bn : Int)) = true := decide_eq_true (by omega)
      go_wp2_with (first | (at_make; refine Stop.un ?_) | (at_builtin; refine Stop.un ?_) | (with_reducible refine Stop.conv 22 9 ?_) | (with_reducible refine Stop.conv 9 22 ?_))
      go_ret
      exact ⟨by first | rfl | simp, b0⟩
    · have d7 : decide ((7 : Int) < (bn : Int)) = false := decide_eq_false (by omega)
      go_upto_region 4 with fail
      clear c2
      have c0 := z.cell 0 rfl
      have c1 := z.cell 1 rfl
      have c2 := z.cell 2 rfl
      have zg := At.new w2 #[.int .u8 1, .int .i64 0] 34
      have bt := (Below.refl w2.heap.size w2).alloc (Nat.le_refl _) (.cells #[.int .u8 1, .int .i64 0] 34)
      replace z := z.mono bt
      replace b0 := b0.next bt
      clear bt
      go_wp2_with (first | (at_make; refine Stop.un ?_) | (at_builtin; refine Stop.un ?_) | (with_reducible refine Stop.conv 22 9 ?_) | (with_reducible refine Stop.conv 9 22 ?_))
      clear c0 c1 c2
      generalize w2.alloc (.cells #[.int .u8 1, .int .i64 0] 34) = w3 at z zg b0 ⊢
      generalize w2.heap.size = gG at zg ⊢
      have ok := HOK.out.mono b0
      have hgr := grows_any ka kn kc kinds ra rn rc rows ba bn bc bs (some ⟨gG, 0, none⟩) 1 1 [⟨1, 0⟩] w3 ok.k ok.kl hkm hkx ok.r ok.rl hrm hrx (by omega) (fun r h => by have := HFW.out r h; omega) ok.b ok.bl hbm hbx (by omega) (At.cs15 (xs := agcells [⟨1, 0⟩]) zg) rfl (by decide) (by decide) (by decide)
      have hbl : bs.length = bn := ok.bl
      have hrl : rows.length = rn := ok.rl
      rcases grp_count kinds (rows.map (·.l)) bs with ⟨er, he, hne⟩ | ⟨gs, hg, hsum, hpos, hone, hadj⟩
      · rw [he] at hgr
        have HGR := Lib.hid hgr
        have hnb : (er != 0) = true := by simpa using hne
        clear hgr zg ok he hne hbl hrl
        refine HGR.out.mono ?_
        rintro e w4 ⟨aA, nA, cA, rA, rfl, MA, hA⟩
        have hrA : rA = [] := List.map_eq_nil_iff.1 hA
        have hn0 : rA.length = nA := OwnRs.length MA.O
        rw [hrA] at hn0
        obtain rfl : nA = 0 := hn0.symm
        have bE := b0.next (Own.below MA.O)
        clear HGR MA hA hrA hn0
        go_wp2_with (first | (at_make; refine Stop.un ?_) | (at_builtin; refine Stop.un ?_) | (with_reducible refine Stop.conv 22 9 ?_) | (with_reducible refine Stop.conv 9 22 ?_))
        go_ret
        exact ⟨by first | rfl | simp, bE⟩
      · rw [hg] at hgr
        have HGR := Lib.hid hgr
        rw [List.length_map, hrl] at hsum
        have HHD : Hid (∀ g : List (List V), (hdOf bs (g.headD [])).length = bn) := Lib.hid (fun g => by unfold hdOf; rw [List.length_map]; exact hbl)
        have HPS : Hid ((0 < rn → ∀ g ∈ gs, g ≠ []) ∧ (bn = 0 → gs.length = 1) ∧ (gs.map List.length).sum = rn) := Lib.hid ⟨fun h => hpos (fun e => by have h2 := congrArg List.length e; rw [List.length_map, hrl] at h2; simp at h2; omega), fun h => hone (List.eq_nil_of_length_eq_zero (hbl.trans h)), hsum⟩
        have HADJ := Lib.hid hadj
        clear hgr zg ok hg hsum hpos hone hadj hbl hrl
        refine HGR.out.mono ?_
        rintro e w4 ⟨aA, N, cA, rs, rfl, M, hA⟩
        have bt := Own.below M.O
        have hgl : gs.length = N := by
          have h2 := congrArg List.length hA
          rw [List.length_map, List.length_map] at h2
          exact h2.symm.trans (OwnRs.length M.O)
        have HA : Hid (∀ i (h : i < rs.length) (h' : i < gs.length), rs[i].l = hdOf bs (gs[i].headD []) ++ [numG gs[i].length]) := Lib.hid (fun i h h' => by
          have h2 := congrArg (fun q : List (List V) => q[i]?) hA
          simp only [List.getElem?_map, List.getElem?_eq_getElem h, List.getElem?_eq_getElem h', Option.map_some, Option.some.injEq] at h2
          exact h2)
        have HGL := Lib.hid hgl
        have hleA := owns_le M.O.1
        have hmxA : cA ≤ 9223372036854775807 := owns_max M.O.1
        replace z := z.mono bt
        have bE := b0.next bt
        clear HGR hA hgl bt b0
        go_wp2_with (first | (at_make; refine Stop.un ?_) | (at_builtin; refine Stop.un ?_) | (with_reducible refine Stop.conv 22 9 ?_) | (with_reducible refine Stop.conv 9 22 ?_))
        go_loopw [42, 6] (fun iv nv wr => ∃ (i s : Nat), i ≤ N ∧ iv = .int .i64 (i : Int) ∧ nv = .int .i64 (s : Int) ∧ Below w4.heap.size w4 wr ∧ s ≤ 60 ∧ Hid (s = ((gs.take i).map List.length).sum)) (fun iv _ _ => N - (intOf iv).toNat)
        case atStart => exact ⟨0, 0, Nat.zero_le _, rfl, rfl, Below.refl _ _, Nat.zero_le _, Lib.hid rfl⟩
        case round =>
          obtain ⟨i, s, hi, rfl, rfl, bw, hs60, HS⟩ := hrel
          by_cases hlt : i < N
          · have hig : i < gs.length := by have := HGL.out; omega
            have hir : i < rs.length := by have := OwnRs.length M.O; omega
            have M2 := M.below bw
            have z2 := z.mono bw
            have cs := Own.cs M2.O
            obtain ⟨b, o, rfl⟩ := cs.addr (by rw [rwcells_length]; omega)
            have x0 : wr.cell? ⟨b, o + i, none⟩ = some (.slice rs[i].a rs[i].n rs[i].cap) := cs.at (by simp [rwcells, hir, Rw.sl])
            have ok1 := (M2.F rs[i] (List.getElem_mem _)).1
            have hl1 := HA.out i hir hig
            have HPREV : Hid (∀ p, i = p + 1 → ∃ r' : Rw, ∃ hd', wr.cell? ⟨b, o + p, none⟩ = some (.slice r'.a r'.n r'.cap) ∧ RowOk wr r' ∧ (∃ t, r'.l = hd' ++ [t]) ∧ hd'.length = bn ∧ hd' ≠ hdOf bs (gs[i].headD [])) := Lib.hid (fun p hp => by
              subst hp
              exact ⟨rs[p], hdOf bs (gs[p].headD []), cs.at (by simp [rwcells, show p < rs.length by omega, Rw.sl]), (M2.F rs[p] (List.getElem_mem _)).1, ⟨_, HA.out p (by omega) (by omega)⟩, HHD.out _, HADJ.out p hig⟩)
            have hdl := HHD.out gs[i]
            have HS2 : Hid (s + gs[i].length = ((gs.take (i + 1)).map List.length).sum) := Lib.hid (by
              rw [List.take_succ_eq_append_getElem hig, List.map_append, List.sum_append, ← HS.out]; simp)
            have hs2 : s + gs[i].length ≤ 60 := by
              have h1 := HS2.out
              have h2 := sum_take_le (gs.map List.length) (i + 1)
              rw [← List.map_take, HPS.out.2.2] at h2
              omega
            have hc1 : 0 < rn → 1 ≤ gs[i].length := fun h => List.length_pos_iff.2 (HPS.out.1 h gs[i] (List.getElem_mem _))
            generalize hdOf bs (gs[i].headD []) = hd at hl1 HPREV hdl
            generalize gs[i].length = cn at hl1 HS2 hs2 hc1
            generalize rs[i] = r at x0 ok1 hl1
            have hrn1 : r.n = bn + 1 := by rw [← ok1.len, hl1, List.length_append, hdl]; rfl
            have ocs := ok1.cs
            have hrle := ok1.le
            have hrmx : r.cap ≤ 9223372036854775807 := ok1.max
            obtain ⟨vb, vo, hra⟩ := ocs.addr (by rw [vcells_length, hl1, List.length_append]; simp)
            rw [hrn1, hra] at x0
            rw [hl1, hra] at ocs
            have hql : bn < (hd ++ [numG (cn : Int)]).length := by rw [List.length_append, hdl]; simp
            obtain ⟨q0, q1, -⟩ := ocs.vat hql
            have hgb : (hd ++ [numG (cn : Int)])[bn] = numG (cn : Int) := by
              rw [List.getElem_append_right (by omega)]
              simp [hdl]
            rw [hgb] at q0 q1
            simp only [numG] at q0 q1
            have HCSI : Hid (Cs wr (some ⟨vb, vo, none⟩) (vcells hd)) := Lib.hid (by
              rw [vcells_append] at ocs
              exact ocs.left)
            have hrle1 : bn + 1 ≤ r.cap := by omega
            have HDL := Lib.hid hdl
            have hc1d : 0 < rn → decide ((cn : Int) < 1) = false := fun h => decide_eq_false (by have := hc1 h; omega)
            have c1 := z2.cell 1 rfl
            have c2 := z2.cell 2 rfl
            have xl := lt_cell x0
            have ql := lt_cell q0
            clear cs ok1 hl1 hrn1 ocs hra hgb hql hdl hig hir M2 hrle
            by_cases hcn : cn < 1
            ·
              have hr0 : ¬ 0 < rn := fun h => by have := hc1 h; omega
              have dc : decide ((cn : Int) < 1) = true := decide_eq_true (by omega)
              have dr : decide ((0 : Int) < (rn : Int)) = false := decide_eq_false (by omega)
              clear hc1d
              by_cases hi0 : i = 0
              ·
                have di0 : decide ((0 : Int) < (i : Int)) = false := decide_eq_false (by omega)
                have dn0 : decide (0 < i) = false := decide_eq_false (by omega)
                clear HPREV hi0
                go_upto_region 14 with fail
                clear x0 q0 q1 xl ql c1 c2
                refine mix_startE 19 rfl (by kernel_rfl) ?_
                intro xq hxq
                replace bw := Below.next bw hxq
                clear hxq
                refine mix_quiet Keeps.ext 0 rfl (by kernel_rfl) rfl ?_
                intro ι U hne hU
                go_big_quiet_op
                clear hU hne U ι
                show wpAnyM _ _ _ _ _ _ _ _ _
                refine mix_quiet Keeps.ext 1 rfl (by kernel_rfl) rfl ?_
                intro ι U hne hU
                go_big_quiet_op
                clear hU hne U ι
                show wpAnyM _ _ _ _ _ _ _ _ _
                refine mix_quiet Keeps.ext 2 rfl (by kernel_rfl) rfl ?_
                intro ι U hne hU
                go_big_quiet_op
                clear hU hne U ι
                show wpAnyM _ _ _ _ _ _ _ _ _
                refine mix_skip Keeps.ext 3 rfl (by kernel_rfl) rfl ?_
                go_big_quiet_skip
                refine wpQuiet_nil ?_
                show wpAnyM _ _ _ _ _ _ _ _ _
                refine mix_skip Keeps.ext 4 rfl (by kernel_rfl) rfl ?_
                go_big_quiet_skip
                refine wpQuiet_nil ?_
                show wpAnyM _ _ _ _ _ _ _ _ _
                refine mix_skip Keeps.ext 5 rfl (by kernel_rfl) rfl ?_
                go_big_quiet_skip
                refine wpQuiet_nil ?_
                show wpAnyM _ _ _ _ _ _ _ _ _
                refine mix_skip Keeps.ext 6 rfl (by kernel_rfl) rfl ?_
                go_big_quiet_skip
                refine wpQuiet_nil ?_
                show wpAnyM _ _ _ _ _ _ _ _ _
                refine mix_skip Keeps.ext 7 rfl (by kernel_rfl) rfl ?_
                go_big_quiet_skip
                refine wpQuiet_nil ?_
                show wpAnyM _ _ _ _ _ _ _ _ _
                refine mix_skip Keeps.ext 8 rfl (by kernel_rfl) rfl ?_
                go_big_quiet_skip
                refine wpQuiet_nil ?_
                show wpAnyM _ _ _ _ _ _ _ _ _
                refine mix_skip Keeps.ext 9 rfl (by kernel_rfl) rfl ?_
                go_big_quiet_skip
                refine wpQuiet_nil ?_
                show wpAnyM _ _ _ _ _ _ _ _ _
                refine mix_skip Keeps.ext 10 rfl (by kernel_rfl) rfl ?_
                go_big_quiet_skip
                refine wpQuiet_nil ?_
                show wpAnyM _ _ _ _ _ _ _ _ _
                refine mix_skip Keeps.ext 11 rfl (by kernel_rfl) rfl ?_
                go_big_quiet_skip
                refine wpQuiet_nil ?_
                show wpAnyM _ _ _ _ _ _ _ _ _
                refine mix_skip Keeps.ext 12 rfl (by kernel_rfl) rfl ?_
                go_big_quiet_skip
                refine wpQuiet_nil ?_
                show wpAnyM _ _ _ _ _ _ _ _ _
                refine mix_skip Keeps.ext 13 rfl (by kernel_rfl) rfl ?_
                go_big_quiet_skip
                refine wpQuiet_nil ?_
                show wpAnyM _ _ _ _ _ _ _ _ _
                refine mix_skip Keeps.ext 14 rfl (by kernel_rfl) rfl ?_
                go_big_quiet_skip
                refine wpQuiet_nil ?_
                show wpAnyM _ _ _ _ _ _ _ _ _
                refine mix_skip Keeps.ext 15 rfl (by kernel_rfl) rfl ?_
                go_big_quiet_skip
                refine wpQuiet_nil ?_
                show wpAnyM _ _ _ _ _ _ _ _ _
                refine mix_skip Keeps.ext 16 rfl (by kernel_rfl) rfl ?_
                go_big_quiet_skip
                refine wpQuiet_nil ?_
                show wpAnyM _ _ _ _ _ _ _ _ _
                refine mix_skip Keeps.ext 17 rfl (by kernel_rfl) rfl ?_
                go_big_quiet_skip
                refine wpQuiet_nil ?_
                show wpAnyM _ _ _ _ _ _ _ _ _
                refine mix_quiet Keeps.ext 18 rfl (by kernel_rfl) rfl ?_
                intro ι U hne hU
                go_big_quiet_op
                clear hU hne U ι
                show wpAnyM _ _ _ _ _ _ _ _ _
                refine mix_end (by kernel_rfl) ?_
                go_wp2_with (first | (at_make; refine Stop.un ?_) | (at_builtin; refine Stop.un ?_) | (with_reducible refine Stop.conv 22 9 ?_) | (with_reducible refine Stop.conv 9 22 ?_))
                go_roundw
                case rel => exact ⟨i + 1, s + cn, by omega, by go_num, by go_num, bw, hs2, HS2⟩
                case measure => simp [intOf]; omega
              ·
                obtain ⟨p, rfl⟩ : ∃ p, i = p + 1 := ⟨i - 1, by omega⟩
                obtain ⟨r', hd', xp, okp, ⟨t', hl'⟩, hdp, hne⟩ := HPREV.out p rfl
                have di0 : decide ((0 : Int) < ((p + 1 : Nat) : Int)) = true := decide_eq_true (by omega)
                have csP : Cs wr r'.a (vcells hd') := by
                  have h2 := okp.cs
                  rw [hl', vcells_append] at h2
                  exact h2.left
                have hrp : r'.n = bn + 1 := by rw [← okp.len, hl', List.length_append, hdp]; rfl
                have hrlp : bn + 1 ≤ r'.cap := by have := okp.le; omega
                have hrmp : r'.cap ≤ 9223372036854775807 := okp.max
                rw [hrp] at xp
                have csI := HCSI.out
                have HSR : Hid (∀ wz, Cs wz r'.a (vcells hd') → Cs wz (some ⟨vb, vo, none⟩) (vcells hd) → Calls Try.prog 12 #[.slice r'.a bn r'.cap, .slice (some ⟨vb, vo, none⟩) bn r.cap] wz (fun e w' => e = .returned (.bool false) ∧ Below wz.heap.size wz w')) := Lib.hid (fun wz h1 h2 => by
                  have h3 := samerow_any r'.a bn r'.cap hd' (some ⟨vb, vo, none⟩) bn r.cap hd wz h1 h2 hdp HDL.out (by omega) (by omega) hrmp hrmx
                  rw [decide_eq_false hne] at h3
                  exact h3)
                clear HPREV okp hl' hdp hne hrp HCSI HDL
                generalize r'.a = pa at xp csP HSR
                generalize r'.cap = pc at xp hrlp hrmp HSR
                skip
                go_upto_region 14 with fail
                clear x0 q0 q1 xl ql c1 c2
                refine mix_startE 19 rfl (by kernel_rfl) ?_
                intro xq hxq
                replace xp := Ext.cell hxq xp
                replace z2 := At.mono z2 hxq
                replace bw := Below.next bw hxq
                replace csP := Cs.mono csP hxq (Nat.le_refl _)
                replace csI := Cs.mono csI hxq (Nat.le_refl _)
                clear hxq
                refine mix_quiet Keeps.ext 0 rfl (by kernel_rfl) rfl ?_
                intro ι U hne hU
                go_big_quiet_op
                clear hU hne U ι
                show wpAnyM _ _ _ _ _ _ _ _ _
                refine mix_quiet Keeps.ext 1 rfl (by kernel_rfl) rfl ?_
                intro ι U hne hU
                go_big_quiet_op
                clear hU hne U ι
                show wpAnyM _ _ _ _ _ _ _ _ _
                refine mix_quiet Keeps.ext 2 rfl (by kernel_rfl) rfl ?_
                intro ι U hne hU
                go_big_quiet_op
                clear hU hne U ι
                show wpAnyM _ _ _ _ _ _ _ _ _
                refine mix_quiet Keeps.ext 3 rfl (by kernel_rfl) rfl ?_
                intro ι U hne hU
                go_big_quiet_op
                clear hU hne U ι
                show wpAnyM _ _ _ _ _ _ _ _ _
                refine mix_quiet Keeps.ext 4 rfl (by kernel_rfl) rfl ?_
                intro ι U hne hU
                go_big_quiet_op
                clear hU hne U ι
                show wpAnyM _ _ _ _ _ _ _ _ _
                refine mix_quiet Keeps.ext 5 rfl (by kernel_rfl) rfl ?_
                intro ι U hne hU
                go_big_quiet_op
                clear hU hne U ι
                show wpAnyM _ _ _ _ _ _ _ _ _
                refine mix_quiet Keeps.ext 6 rfl (by kernel_rfl) rfl ?_
                intro ι U hne hU
                go_big_quiet_op
                clear hU hne U ι
                show wpAnyM _ _ _ _ _ _ _ _ _
                refine mix_quiet Keeps.ext 7 rfl (by kernel_rfl) rfl ?_
                intro ι U hne hU
                have hcw0 := fun ii => (hU ii).cell xp
                have hcw1 := fun ii => (At.mono z2 (hU ii)).cell 2 rfl
                go_big_quiet_op
                clear hU hne hcw0 hcw1 U ι
                show wpAnyM _ _ _ _ _ _ _ _ _
                refine mix_quiet Keeps.ext 8 rfl (by kernel_rfl) rfl ?_
                intro ι U hne hU
                go_big_quiet_op
                clear hU hne U ι
                show wpAnyM _ _ _ _ _ _ _ _ _
                refine mix_quiet Keeps.ext 9 rfl (by kernel_rfl) rfl ?_
                intro ι U hne hU
                have hcw0 := fun ii => (hU ii).cell xp
                have hcw1 := fun ii => (At.mono z2 (hU ii)).cell 2 rfl
                go_big_quiet_op
                clear hU hne hcw0 hcw1 U ι
                show wpAnyM _ _ _ _ _ _ _ _ _
                refine mix_quiet Keeps.ext 10 rfl (by kernel_rfl) rfl ?_
                intro ι U hne hU
                go_big_quiet_op
                clear hU hne U ι
                show wpAnyM _ _ _ _ _ _ _ _ _
                refine mix_quiet Keeps.ext 11 rfl (by kernel_rfl) rfl ?_
                intro ι U hne hU
                refine quiet_as _ (exec_takeRw _ (bn + 1) pc bn rfl rfl (by omega) (by omega)) (hne.elim fun ii => ⟨_, ii, rfl⟩) ?_
                go_big_quiet_op
                clear hU hne U ι
                show wpAnyM _ _ _ _ _ _ _ _ _
                refine mix_quiet Keeps.ext 12 rfl (by kernel_rfl) rfl ?_
                intro ι U hne hU
                go_big_quiet_op
                clear hU hne U ι
                show wpAnyM _ _ _ _ _ _ _ _ _
                refine mix_quiet Keeps.ext 13 rfl (by kernel_rfl) rfl ?_
                intro ι U hne hU
                go_big_quiet_op
                clear hU hne U ι
                show wpAnyM _ _ _ _ _ _ _ _ _
                refine mix_quiet Keeps.ext 14 rfl (by kernel_rfl) rfl ?_
                intro ι U hne hU
                have hcw0 := fun ii => (hU ii).cell xp
                have hcw1 := fun ii => (At.mono z2 (hU ii)).cell 2 rfl
                go_big_quiet_op
                clear hU hne hcw0 hcw1 U ι
                show wpAnyM _ _ _ _ _ _ _ _ _
                refine mix_quiet Keeps.ext 15 rfl (by kernel_rfl) rfl ?_
                intro ι U hne hU
                go_big_quiet_op
                clear hU hne U ι
                show wpAnyM _ _ _ _ _ _ _ _ _
                refine mix_quiet Keeps.ext 16 rfl (by kernel_rfl) rfl ?_
                intro ι U hne hU
                refine quiet_as _ (exec_takeRw _ (bn + 1) r.cap bn rfl rfl (by omega) (by omega)) (hne.elim fun ii => ⟨_, ii, rfl⟩) ?_
                go_big_quiet_op
                clear hU hne U ι
                show wpAnyM _ _ _ _ _ _ _ _ _
                refine mix_any 17 rfl (by kernel_rfl) rfl ?_
                go_wp2_with (first | (at_make; refine Stop.un ?_) | (at_builtin; refine Stop.un ?_) | (with_reducible refine Stop.conv 22 9 ?_) | (with_reducible refine Stop.conv 9 22 ?_))
                refine (HSR.out _ csP csI).mono ?_
                rintro e wq1 ⟨rfl, bq1⟩
                go_wp2_with (first | (at_make; refine Stop.un ?_) | (at_builtin; refine Stop.un ?_) | (with_reducible refine Stop.conv 22 9 ?_) | (with_reducible refine Stop.conv 9 22 ?_))
                refine MixPost.mk bq1 ?_
                replace xp := Ext.cell bq1 xp
                replace z2 := At.mono z2 bq1
                replace bw := Below.next bw bq1
                replace csP := Cs.mono csP bq1 (Nat.le_refl _)
                replace csI := Cs.mono csI bq1 (Nat.le_refl _)
                clear bq1
                refine mix_quiet Keeps.ext 18 rfl (by kernel_rfl) rfl ?_
                intro ι U hne hU
                go_big_quiet_op
                clear hU hne U ι
                show wpAnyM _ _ _ _ _ _ _ _ _
                refine mix_end (by kernel_rfl) ?_
                go_wp2_with (first | (at_make; refine Stop.un ?_) | (at_builtin; refine Stop.un ?_) | (with_reducible refine Stop.conv 22 9 ?_) | (with_reducible refine Stop.conv 9 22 ?_))
                go_roundw
                case rel => exact ⟨p + 1 + 1, s + cn, by omega, by go_num, by go_num, bw, hs2, HS2⟩
                case measure => simp [intOf]; omega
            ·
              have dc : decide ((cn : Int) < 1) = false := decide_eq_false (by omega)
              clear hc1d
              by_cases hi0 : i = 0
              ·
                have di0 : decide ((0 : Int) < (i : Int)) = false := decide_eq_false (by omega)
                have dn0 : decide (0 < i) = false := decide_eq_false (by omega)
                clear HPREV hi0
                go_upto_region 14 with fail
                clear x0 q0 q1 xl ql c1 c2
                refine mix_startE 19 rfl (by kernel_rfl) ?_
                intro xq hxq
                replace bw := Below.next bw hxq
                clear hxq
                refine mix_quiet Keeps.ext 0 rfl (by kernel_rfl) rfl ?_
                intro ι U hne hU
                go_big_quiet_op
                clear hU hne U ι
                show wpAnyM _ _ _ _ _ _ _ _ _
                refine mix_quiet Keeps.ext 1 rfl (by kernel_rfl) rfl ?_
                intro ι U hne hU
                go_big_quiet_op
                clear hU hne U ι
                show wpAnyM _ _ _ _ _ _ _ _ _
                refine mix_quiet Keeps.ext 2 rfl (by kernel_rfl) rfl ?_
                intro ι U hne hU
                go_big_quiet_op
                clear hU hne U ι
                show wpAnyM _ _ _ _ _ _ _ _ _
                refine mix_skip Keeps.ext 3 rfl (by kernel_rfl) rfl ?_
                go_big_quiet_skip
                refine wpQuiet_nil ?_
                show wpAnyM _ _ _ _ _ _ _ _ _
                refine mix_skip Keeps.ext 4 rfl (by kernel_rfl) rfl ?_
                go_big_quiet_skip
                refine wpQuiet_nil ?_
                show wpAnyM _ _ _ _ _ _ _ _ _
                refine mix_skip Keeps.ext 5 rfl (by kernel_rfl) rfl ?_
                go_big_quiet_skip
                refine wpQuiet_nil ?_
                show wpAnyM _ _ _ _ _ _ _ _ _
                refine mix_skip Keeps.ext 6 rfl (by kernel_rfl) rfl ?_
                go_big_quiet_skip
                refine wpQuiet_nil ?_
                show wpAnyM _ _ _ _ _ _ _ _ _
                refine mix_skip Keeps.ext 7 rfl (by kernel_rfl) rfl ?_
                go_big_quiet_skip
                refine wpQuiet_nil ?_
                show wpAnyM _ _ _ _ _ _ _ _ _
                refine mix_skip Keeps.ext 8 rfl (by kernel_rfl) rfl ?_
                go_big_quiet_skip
                refine wpQuiet_nil ?_
                show wpAnyM _ _ _ _ _ _ _ _ _
                refine mix_skip Keeps.ext 9 rfl (by kernel_rfl) rfl ?_
                go_big_quiet_skip
                refine wpQuiet_nil ?_
                show wpAnyM _ _ _ _ _ _ _ _ _
                refine mix_skip Keeps.ext 10 rfl (by kernel_rfl) rfl ?_
                go_big_quiet_skip
                refine wpQuiet_nil ?_
                show wpAnyM _ _ _ _ _ _ _ _ _
                refine mix_skip Keeps.ext 11 rfl (by kernel_rfl) rfl ?_
                go_big_quiet_skip
                refine wpQuiet_nil ?_
                show wpAnyM _ _ _ _ _ _ _ _ _
                refine mix_skip Keeps.ext 12 rfl (by kernel_rfl) rfl ?_
                go_big_quiet_skip
                refine wpQuiet_nil ?_
                show wpAnyM _ _ _ _ _ _ _ _ _
                refine mix_skip Keeps.ext 13 rfl (by kernel_rfl) rfl ?_
                go_big_quiet_skip
                refine wpQuiet_nil ?_
                show wpAnyM _ _ _ _ _ _ _ _ _
                refine mix_skip Keeps.ext 14 rfl (by kernel_rfl) rfl ?_
                go_big_quiet_skip
                refine wpQuiet_nil ?_
                show wpAnyM _ _ _ _ _ _ _ _ _
                refine mix_skip Keeps.ext 15 rfl (by kernel_rfl) rfl ?_
                go_big_quiet_skip
                refine wpQuiet_nil ?_
                show wpAnyM _ _ _ _ _ _ _ _ _
                refine mix_skip Keeps.ext 16 rfl (by kernel_rfl) rfl ?_
                go_big_quiet_skip
                refine wpQuiet_nil ?_
                show wpAnyM _ _ _ _ _ _ _ _ _
                refine mix_skip Keeps.ext 17 rfl (by kernel_rfl) rfl ?_
                go_big_quiet_skip
                refine wpQuiet_nil ?_
                show wpAnyM _ _ _ _ _ _ _ _ _
                refine mix_quiet Keeps.ext 18 rfl (by kernel_rfl) rfl ?_
                intro ι U hne hU
                go_big_quiet_op
                clear hU hne U ι
                show wpAnyM _ _ _ _ _ _ _ _ _
                refine mix_end (by kernel_rfl) ?_
                go_wp2_with (first | (at_make; refine Stop.un ?_) | (at_builtin; refine Stop.un ?_) | (with_reducible refine Stop.conv 22 9 ?_) | (with_reducible refine Stop.conv 9 22 ?_))
                go_roundw
                case rel => exact ⟨i + 1, s + cn, by omega, by go_num, by go_num, bw, hs2, HS2⟩
                case measure => simp [intOf]; omega
              ·
                obtain ⟨p, rfl⟩ : ∃ p, i = p + 1 := ⟨i - 1, by omega⟩
                obtain ⟨r', hd', xp, okp, ⟨t', hl'⟩, hdp, hne⟩ := HPREV.out p rfl
                have di0 : decide ((0 : Int) < ((p + 1 : Nat) : Int)) = true := decide_eq_true (by omega)
                have csP : Cs wr r'.a (vcells hd') := by
                  have h2 := okp.cs
                  rw [hl', vcells_append] at h2
                  exact h2.left
                have hrp : r'.n = bn + 1 := by rw [← okp.len, hl', List.length_append, hdp]; rfl
                have hrlp : bn + 1 ≤ r'.cap := by have := okp.le; omega
                have hrmp : r'.cap ≤ 9223372036854775807 := okp.max
                rw [hrp] at xp
                have csI := HCSI.out
                have HSR : Hid (∀ wz, Cs wz r'.a (vcells hd') → Cs wz (some ⟨vb, vo, none⟩) (vcells hd) → Calls Try.prog 12 #[.slice r'.a bn r'.cap, .slice (some ⟨vb, vo, none⟩) bn r.cap] wz (fun e w' => e = .returned (.bool false) ∧ Below wz.heap.size wz w')) := Lib.hid (fun wz h1 h2 => by
                  have h3 := samerow_any r'.a bn r'.cap hd' (some ⟨vb, vo, none⟩) bn r.cap hd wz h1 h2 hdp HDL.out (by omega) (by omega) hrmp hrmx
                  rw [decide_eq_false hne] at h3
                  exact h3)
                clear HPREV okp hl' hdp hne hrp HCSI HDL
                generalize r'.a = pa at xp csP HSR
                generalize r'.cap = pc at xp hrlp hrmp HSR
                skip
                go_upto_region 14 with fail
                clear x0 q0 q1 xl ql c1 c2
                refine mix_startE 19 rfl (by kernel_rfl) ?_
                intro xq hxq
                replace xp := Ext.cell hxq xp
                replace z2 := At.mono z2 hxq
                replace bw := Below.next bw hxq
                replace csP := Cs.mono csP hxq (Nat.le_refl _)
                replace csI := Cs.mono csI hxq (Nat.le_refl _)
                clear hxq
                refine mix_quiet Keeps.ext 0 rfl (by kernel_rfl) rfl ?_
                intro ι U hne hU
                go_big_quiet_op
                clear hU hne U ι
                show wpAnyM _ _ _ _ _ _ _ _ _
                refine mix_quiet Keeps.ext 1 rfl (by kernel_rfl) rfl ?_
                intro ι U hne hU
                go_big_quiet_op
                clear hU hne U ι
                show wpAnyM _ _ _ _ _ _ _ _ _
                refine mix_quiet Keeps.ext 2 rfl (by kernel_rfl) rfl ?_
                intro ι U hne hU
                go_big_quiet_op
                clear hU hne U ι
                show wpAnyM _ _ _ _ _ _ _ _ _
                refine mix_quiet Keeps.ext 3 rfl (by kernel_rfl) rfl ?_
                intro ι U hne hU
                go_big_quiet_op
                clear hU hne U ι
                show wpAnyM _ _ _ _ _ _ _ _ _
                refine mix_quiet Keeps.ext 4 rfl (by kernel_rfl) rfl ?_
                intro ι U hne hU
                go_big_quiet_op
                clear hU hne U ι
                show wpAnyM _ _ _ _ _ _ _ _ _
                refine mix_quiet Keeps.ext 5 rfl (by kernel_rfl) rfl ?_
                intro ι U hne hU
                go_big_quiet_op
                clear hU hne U ι
                show wpAnyM _ _ _ _ _ _ _ _ _
                refine mix_quiet Keeps.ext 6 rfl (by kernel_rfl) rfl ?_
                intro ι U hne hU
                go_big_quiet_op
                clear hU hne U ι
                show wpAnyM _ _ _ _ _ _ _ _ _
                refine mix_quiet Keeps.ext 7 rfl (by kernel_rfl) rfl ?_
                intro ι U hne hU
                have hcw0 := fun ii => (hU ii).cell xp
                have hcw1 := fun ii => (At.mono z2 (hU ii)).cell 2 rfl
                go_big_quiet_op
                clear hU hne hcw0 hcw1 U ι
                show wpAnyM _ _ _ _ _ _ _ _ _
                refine mix_quiet Keeps.ext 8 rfl (by kernel_rfl) rfl ?_
                intro ι U hne hU
                go_big_quiet_op
                clear hU hne U ι
                show wpAnyM _ _ _ _ _ _ _ _ _
                refine mix_quiet Keeps.ext 9 rfl (by kernel_rfl) rfl ?_
                intro ι U hne hU
                have hcw0 := fun ii => (hU ii).cell xp
                have hcw1 := fun ii => (At.mono z2 (hU ii)).cell 2 rfl
                go_big_quiet_op
                clear hU hne hcw0 hcw1 U ι
                show wpAnyM _ _ _ _ _ _ _ _ _
                refine mix_quiet Keeps.ext 10 rfl (by kernel_rfl) rfl ?_
                intro ι U hne hU
                go_big_quiet_op
                clear hU hne U ι
                show wpAnyM _ _ _ _ _ _ _ _ _
                refine mix_quiet Keeps.ext 11 rfl (by kernel_rfl) rfl ?_
                intro ι U hne hU
                refine quiet_as _ (exec_takeRw _ (bn + 1) pc bn rfl rfl (by omega) (by omega)) (hne.elim fun ii => ⟨_, ii, rfl⟩) ?_
                go_big_quiet_op
                clear hU hne U ι
                show wpAnyM _ _ _ _ _ _ _ _ _
                refine mix_quiet Keeps.ext 12 rfl (by kernel_rfl) rfl ?_
                intro ι U hne hU
                go_big_quiet_op
                clear hU hne U ι
                show wpAnyM _ _ _ _ _ _ _ _ _
                refine mix_quiet Keeps.ext 13 rfl (by kernel_rfl) rfl ?_
                intro ι U hne hU
                go_big_quiet_op
                clear hU hne U ι
                show wpAnyM _ _ _ _ _ _ _ _ _
                refine mix_quiet Keeps.ext 14 rfl (by kernel_rfl) rfl ?_
                intro ι U hne hU
                have hcw0 := fun ii => (hU ii).cell xp
                have hcw1 := fun ii => (At.mono z2 (hU ii)).cell 2 rfl
                go_big_quiet_op
                clear hU hne hcw0 hcw1 U ι
                show wpAnyM _ _ _ _ _ _ _ _ _
                refine mix_quiet Keeps.ext 15 rfl (by kernel_rfl) rfl ?_
                intro ι U hne hU
                go_big_quiet_op
                clear hU hne U ι
                show wpAnyM _ _ _ _ _ _ _ _ _
                refine mix_quiet Keeps.ext 16 rfl (by kernel_rfl) rfl ?_
                intro ι U hne hU
                refine quiet_as _ (exec_takeRw _ (bn + 1) r.cap bn rfl rfl (by omega) (by omega)) (hne.elim fun ii => ⟨_, ii, rfl⟩) ?_
                go_big_quiet_op
                clear hU hne U ι
                show wpAnyM _ _ _ _ _ _ _ _ _
                refine mix_any 17 rfl (by kernel_rfl) rfl ?_
                go_wp2_with (first | (at_make; refine Stop.un ?_) | (at_builtin; refine Stop.un ?_) | (with_reducible refine Stop.conv 22 9 ?_) | (with_reducible refine Stop.conv 9 22 ?_))
                refine (HSR.out _ csP csI).mono ?_
                rintro e wq2 ⟨rfl, bq2⟩
                go_wp2_with (first | (at_make; refine Stop.un ?_) | (at_builtin; refine Stop.un ?_) | (with_reducible refine Stop.conv 22 9 ?_) | (with_reducible refine Stop.conv 9 22 ?_))
                refine MixPost.mk bq2 ?_
                replace xp := Ext.cell bq2 xp
                replace z2 := At.mono z2 bq2
                replace bw := Below.next bw bq2
                replace csP := Cs.mono csP bq2 (Nat.le_refl _)
                replace csI := Cs.mono csI bq2 (Nat.le_refl _)
                clear bq2
                refine mix_quiet Keeps.ext 18 rfl (by kernel_rfl) rfl ?_
                intro ι U hne hU
                go_big_quiet_op
                clear hU hne U ι
                show wpAnyM _ _ _ _ _ _ _ _ _
                refine mix_end (by kernel_rfl) ?_
                go_wp2_with (first | (at_make; refine Stop.un ?_) | (at_builtin; refine Stop.un ?_) | (with_reducible refine Stop.conv 22 9 ?_) | (with_reducible refine Stop.conv 9 22 ?_))
                go_roundw
                case rel => exact ⟨p + 1 + 1, s + cn, by omega, by go_num, by go_num, bw, hs2, HS2⟩
                case measure => simp [intOf]; omega
          · have hiN : i = N := by omega
            have hsn : s = rn := by
              rw [HS.out, List.take_of_length_le (by have := HGL.out; omega)]
              exact HPS.out.2.2
            have hN1 : bn = 0 → N = 1 := fun h => HGL.out.symm.trans (HPS.out.2.1 h)
            subst hsn hiN
            have z2 := z.mono bw
            have bE2 := bE.next bw
            clear bE bw M HS HPS HADJ HA HHD HGL z
            have c1 := z2.cell 1 rfl
            have c2 := z2.cell 2 rfl
            by_cases hb0 : bn = 0
            · have db : decide ((0 : Int) < (bn : Int)) = false := decide_eq_false (by omega)
              have hi1 := hN1 hb0
              have di : decide ((i : Int) = 1) = true := decide_eq_true (by omega)
              go_wp2_with (first | (at_make; refine Stop.un ?_) | (at_builtin; refine Stop.un ?_) | (with_reducible refine Stop.conv 22 9 ?_) | (with_reducible refine Stop.conv 9 22 ?_))
              go_ret
              exact ⟨by first | rfl | simp, bE2⟩
            · have db : decide ((0 : Int) < (bn : Int)) = true := decide_eq_true (by omega)
              go_wp2_with (first | (at_make; refine Stop.un ?_) | (at_builtin; refine Stop.un ?_) | (with_reducible refine Stop.conv 22 9 ?_) | (with_reducible refine Stop.conv 9 22 ?_))
              go_ret
              exact ⟨by first | rfl | simp, bE2⟩
end Go.Proofs.Ytbiniecjenencaa
