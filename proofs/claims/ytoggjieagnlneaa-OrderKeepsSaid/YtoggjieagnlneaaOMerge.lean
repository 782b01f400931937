/- Two lists of rows as one. -/
import Derived.Test.YtoggjieagnlneaaOConcat
import Derived.Test.YtoggjieagnlneaaOSort
import Derived.Test.YtoggjieagnlneaaMrgP
set_option linter.unusedVariables false
set_option linter.unusedSimpArgs false
namespace Go.Proofs.Ytoggjieagnlneaa
open Go.RowKit
/-- s[k:] of rows. -/
theorem exec_cutR {ρ : Operand → Value} {x lo : Operand} {dst : Option Tmp} {ty : TypeId} {pos : String} {af : Array Edge} {g : Option (Nat × Bool)} (ao : Option Addr) (n cap k : Nat) (hx : ρ x = .slice ao n cap) (hlo : ρ lo = .int .i64 (k : Int)) (hk : k ≤ n) (hn : n ≤ cap) (w : World) :
    (execOp ρ ⟨dst, .slice 26 x (some lo) none none, ty, pos, af, g⟩).run Try.prog w = .ok (.value (.slice (if cap = k then ao else ao.map fun x => x.add k) (n - k) (cap - k))) w := by
  have h1 : (k : Int) ≤ (n : Int) := by omega
  have h2 : (n : Int) ≤ (cap : Int) := by omega
  have h3 : 0 ≤ (k : Int) := by omega
  simp [execOp, hx, hlo, go_sem, hk, hn, h1, h2, h3]
theorem rwcells_drop (l : List Rw) (k : Nat) : (rwcells l).drop k = rwcells (l.drop k) := by simp [rwcells]
theorem Cs.rcut {w : World} {ao : Option Addr} {l : List Rw} (h : Cs w ao (rwcells l)) (k c : Nat) (hc : l.length ≤ c) : Cs w (if c = k then ao else ao.map fun x => x.add k) (rwcells (l.drop k)) := by
  rw [← rwcells_drop]; exact h.cut k c (by rw [rwcells_length]; exact hc)
theorem wpList_cutR {ops : Array Oper} {rest : List Oper} {w : World} {Q : Exit → Act → World → Prop} {dst : Option Tmp} {x lo : Operand} {ty : TypeId} {pos : String} {af : Array Edge} {g : Option (Nat × Bool)} {a : Act} (ao : Option Addr) (n cap k : Nat) {l : List Rw}
    (hgd : Region.wanted ⟨dst, .slice 26 x (some lo) none none, ty, pos, af, g⟩ (yielded ops a.tmps) = true) (hx : a.eval x = .slice ao n cap) (hlo : a.eval lo = .int .i64 (k : Int)) (hk : k ≤ n) (hn : n ≤ cap) (hc : Cs w ao (rwcells l)) (hl : l.length = n)
    (h : ∀ ao', (∀ w, Cs w ao (rwcells l) → Cs w ao' (rwcells (l.drop k))) → wpList Try.prog ops Q rest (a.put dst (.slice ao' (n - k) (cap - k))) w) : wpList Try.prog ops Q (⟨dst, .slice 26 x (some lo) none none, ty, pos, af, g⟩ :: rest) a w :=
  wpList_as _ hgd (exec_cutR ao n cap k hx hlo hk hn w) (h _ (fun w hc => hc.rcut k cap (by omega)))
theorem Own2.up {w w1 w2 : World} {g : Nat} {rs : List Rw} (o : Own2 w1 w2 g rs) (hb : Below w.heap.size w w1) : Own2 w w2 g rs :=
  ⟨o.at_, Nat.le_trans hb.size o.ge, hb.next o.below, fun r hr => ⟨(o.ok r hr).1, fun a ha => ⟨Nat.le_trans hb.size ((o.ok r hr).2 a ha).1, ((o.ok r hr).2 a ha).2⟩⟩, o.fz⟩
set_option maxRecDepth 100000 in
set_option maxHeartbeats 8000000 in
theorem omerge_any (a1 : Option Addr) (n1 c1 : Nat) (r1 : List Rw) (a2 : Option Addr) (n2 c2 : Nat) (r2 : List Rw) (ak : Option Addr) (p ck : Nat) (ks : List Ky) (w : World)
    (h1 : Tab w a1 r1) (h2 : Tab w a2 r2) (l1 : r1.length = n1) (l2 : r2.length = n2) (m1 : n1 ≤ c1) (m2 : n2 ≤ c2) (cm1 : c1 ≤ maxLen) (cm2 : c2 ≤ maxLen) (s1 : n1 ≤ 100000) (s2 : n2 ≤ 100000) (q1 : ∀ r ∈ r1, r.n ≤ 1000000) (q2 : ∀ r ∈ r2, r.n ≤ 1000000)
    (hk : Cs w ak (kcells ks)) (hp : ks.length = p) (hlp : p ≤ ck) (hcm : ck ≤ maxLen) :
    Calls Try.prog 24 #[.slice a1 n1 c1, .slice a2 n2 c2, .slice ak p ck] w (RetRows w (n1 + n2) ((mergeS (rcmp ks) r1 r2).map (·.l))) := by
  unfold maxLen at cm1 cm2
  have HL := Lib.hid (And.intro l1 l2)
  have HQ := Lib.hid (And.intro q1 q2)
  have HC := Lib.hid (fun (x y : Rw) W (o1 : RowOk W x) (o2 : RowOk W y) hk => ocompare_any x.a x.n x.cap x.l y.a y.n y.cap y.l ak p ck ks W o1 o2 hk hp hlp hcm)
  have HMP := Lib.hid (mergeS_perm (rcmp ks) r1 r2)
  have HML := Lib.hid (mergeS_length (rcmp ks) r1 r2)
  have HLE := Lib.hid (fun a b A B => mergeS_le (rcmp ks) a b A B)
  have HGT := Lib.hid (fun a b A B (h : 0 < rcmp ks a b) => mergeS_gt (rcmp ks) a b A B (by omega))
  have HN1 : Hid (∀ B, mergeS (rcmp ks) [] B = B) := Lib.hid (fun B => by simp [mergeS])
  have HN2 := Lib.hid (mergeS_nil (rcmp ks))
  have hst : mergeS (rcmp ks) r1 r2 = [] ++ mergeS (rcmp ks) (r1.drop 0) (r2.drop 0) := by simp
  generalize hM : mergeS (rcmp ks) r1 r2 = M at HMP HML hst ⊢
  have HST := Lib.hid hst
  clear l1 l2 q1 q2 hst hM
  generalize mergeS (rcmp ks) = mg at HLE HGT HN1 HN2 HST
  have hcc : ∀ x y : Rw, cmpR x.l y.l ks = rcmp ks x y := fun _ _ => rfl
  go_enter Try.func24, Try.ntmps24
  go_wp2_with (first | (at_make; refine Stop.un ?_) | (at_builtin; refine Stop.un ?_))
  go_loopw [7, 8, 9] (fun v ci ck' wr => ∃ (i k : Nat) (ab : Option Addr) (cb : Nat) (O : List Rw), i ≤ n1 ∧ k ≤ n2 ∧ ci = .int .i64 (i : Int) ∧ ck' = .int .i64 (k : Int) ∧ v = .slice ab (i + k) cb ∧ OwnRs w wr (.slice ab (i + k) cb) (i + k) O ∧ Hid (M = O ++ mg (r1.drop i) (r2.drop k))) (fun _ ci ck' _ => n1 + n2 - (intOf ci).toNat - (intOf ck').toNat)
  case atStart => exact ⟨0, 0, none, 0, [], Nat.zero_le _, Nat.zero_le _, rfl, rfl, rfl, Own.nil _ _ (Below.refl _ _), HST⟩
  case round =>
    clear HST
    obtain ⟨i, k, ab, cb, O, hi, hkn, rfl, rfl, rfl, hO, HS⟩ := hrel
    by_cases hlt1 : i < n1
    · by_cases hlt2 : k < n2
      · have i1 : i < r1.length := by have := HL.out; omega
        have i2 : k < r2.length := by have := HL.out; omega
        have BB := Own.below hO
        have t1 := h1.mono BB
        have t2 := h2.mono BB
        have kk := hk.mono BB (Nat.le_refl _)
        obtain ⟨b, o, rfl⟩ := t1.cs.addr (by rw [rwcells_length]; omega)
        obtain ⟨b', o', rfl⟩ := t2.cs.addr (by rw [rwcells_length]; omega)
        have x0 := t1.at i1
        have y0 := t2.at i2
        have o1 := t1.ok r1[i] (List.getElem_mem _)
        have o2 := t2.ok r2[k] (List.getElem_mem _)
        have hs := HS.out
        rw [List.drop_eq_getElem_cons i1, List.drop_eq_getElem_cons i2] at hs
        have d1 : r1.drop i = r1[i] :: r1.drop (i + 1) := List.drop_eq_getElem_cons i1
        have d2 : r2.drop k = r2[k] :: r2.drop (k + 1) := List.drop_eq_getElem_cons i2
        generalize r1[i] = x at x0 o1 hs d1
        generalize r2[k] = y at y0 o2 hs d2
        have HCC := Lib.hid (HC.out x y)
        rw [hcc] at HCC
        have HSS := Lib.hid hs
        have HD := Lib.hid (And.intro d1 d2)
        clear hs d1 d2 i1 i2 t1 t2 HS
        go_upto_region 4 with fail
        refine mix_startE 11 rfl (by kernel_rfl) ?_
        intro xq hxq
        replace x0 := Ext.cell hxq x0
        replace y0 := Ext.cell hxq y0
        replace o1 := RowOk.mono o1 hxq
        replace o2 := RowOk.mono o2 hxq
        replace kk := Cs.mono kk hxq (Nat.le_refl _)
        replace hO := Own.keep hO hxq
        clear hxq
        refine mix_quiet Keeps.ext 0 rfl (by kernel_rfl) rfl ?_
        intro ι U hne hU
        go_big_quiet_op
        clear hU hne U ι
        show wpAnyM _ _ _ _ _ _ _ _ _
        refine mix_quiet Keeps.ext 1 rfl (by kernel_rfl) rfl ?_
        intro ι U hne hU
        go_big_quiet_op
        clear hU hne U ι
        show wpAnyM _ _ _ _ _ _ _ _ _
        refine mix_quiet Keeps.ext 2 rfl (by kernel_rfl) rfl ?_
        intro ι U hne hU
        go_big_quiet_op
        clear hU hne U ι
        show wpAnyM _ _ _ _ _ _ _ _ _
        refine mix_quiet Keeps.ext 3 rfl (by kernel_rfl) rfl ?_
        intro ι U hne hU
        have hcw0 := fun ii => (hU ii).cell x0
        have hcw1 := fun ii => (hU ii).cell y0
        go_big_quiet_op
        clear hU hne hcw0 hcw1 U ι
        show wpAnyM _ _ _ _ _ _ _ _ _
        refine mix_quiet Keeps.ext 4 rfl (by kernel_rfl) rfl ?_
        intro ι U hne hU
        go_big_quiet_op
        clear hU hne U ι
        show wpAnyM _ _ _ _ _ _ _ _ _
        refine mix_quiet Keeps.ext 5 rfl (by kernel_rfl) rfl ?_
        intro ι U hne hU
        go_big_quiet_op
        clear hU hne U ι
        show wpAnyM _ _ _ _ _ _ _ _ _
        refine mix_quiet Keeps.ext 6 rfl (by kernel_rfl) rfl ?_
        intro ι U hne hU
        go_big_quiet_op
        clear hU hne U ι
        show wpAnyM _ _ _ _ _ _ _ _ _
        refine mix_quiet Keeps.ext 7 rfl (by kernel_rfl) rfl ?_
        intro ι U hne hU
        have hcw0 := fun ii => (hU ii).cell x0
        have hcw1 := fun ii => (hU ii).cell y0
        go_big_quiet_op
        clear hU hne hcw0 hcw1 U ι
        show wpAnyM _ _ _ _ _ _ _ _ _
        refine mix_quiet Keeps.ext 8 rfl (by kernel_rfl) rfl ?_
        intro ι U hne hU
        go_big_quiet_op
        clear hU hne U ι
        show wpAnyM _ _ _ _ _ _ _ _ _
        refine mix_any 9 rfl (by kernel_rfl) rfl ?_
        go_wp2_with (first | (at_make; refine Stop.un ?_) | (at_builtin; refine Stop.un ?_))
        refine (HCC.out _ o1 o2 kk).mono ?_
        rintro e wq1 ⟨rfl, bq1⟩
        go_wp2_with (first | (at_make; refine Stop.un ?_) | (at_builtin; refine Stop.un ?_))
        refine MixPost.mk bq1 ?_
        replace x0 := Ext.cell bq1 x0
        replace y0 := Ext.cell bq1 y0
        replace o1 := RowOk.mono o1 bq1
        replace o2 := RowOk.mono o2 bq1
        replace kk := Cs.mono kk bq1 (Nat.le_refl _)
        replace hO := Own.keep hO bq1
        clear bq1
        refine mix_quiet Keeps.ext 10 rfl (by kernel_rfl) rfl ?_
        intro ι U hne hU
        go_big_quiet_op
        clear hU hne U ι
        show wpAnyM _ _ _ _ _ _ _ _ _
        refine mix_end (by kernel_rfl) ?_
        clear o1 o2 kk HCC
        by_cases hc : rcmp ks x y ≤ 0
        ·
          have hd : decide (rcmp ks x y ≤ 0) = true := decide_eq_true hc
          have H2 : Hid (M = (O ++ [x]) ++ mg (r1.drop (i + 1)) (r2.drop k)) := Lib.hid (by rw [HSS.out, HLE.out _ _ _ _ hc, HD.out.2]; simp)
          clear HSS HD
          go_wp2_with (first | (at_make; refine Stop.un ?_) | (at_builtin; refine Stop.un ?_))
          refine Stop.mk (app_rw1 w _ _ rfl rfl hO rfl rfl (by omega) ?_)
          intro a6 c6 w6 hO6 hg6 hk6
          clear hO x0 y0 hg6 hk6
          rw [show i + k + 1 = (i + 1) + k by omega] at hO6 ⊢
          go_wp2_with (first | (at_make; refine Stop.un ?_) | (at_builtin; refine Stop.un ?_))
          go_roundw
          case rel => exact ⟨i + 1, k, a6, c6, _, by omega, by omega, by go_num, rfl, rfl, hO6, H2⟩
          case measure => simp [intOf]; omega
        ·
          have hd : decide (rcmp ks x y ≤ 0) = false := decide_eq_false hc
          have H2 : Hid (M = (O ++ [y]) ++ mg (r1.drop i) (r2.drop (k + 1))) := Lib.hid (by rw [HSS.out, HGT.out x y _ _ (by omega), HD.out.1]; simp)
          clear HSS HD
          go_wp2_with (first | (at_make; refine Stop.un ?_) | (at_builtin; refine Stop.un ?_))
          refine Stop.mk (app_rw1 w _ _ rfl rfl hO rfl rfl (by omega) ?_)
          intro a6 c6 w6 hO6 hg6 hk6
          clear hO x0 y0 hg6 hk6
          rw [show i + k + 1 = i + (k + 1) by omega] at hO6 ⊢
          go_wp2_with (first | (at_make; refine Stop.un ?_) | (at_builtin; refine Stop.un ?_))
          go_roundw
          case rel => exact ⟨i, k + 1, a6, c6, _, by omega, by omega, rfl, by go_num, rfl, hO6, H2⟩
          case measure => simp [intOf]; omega
      · have hkk : ¬ k < n2 := hlt2
        have i1 : r1.length = n1 := HL.out.1
        have i2 : r2.length = n2 := HL.out.2
        have HF : Hid (M = O ++ r1.drop i ++ r2.drop k) := Lib.hid (by rw [HS.out, List.drop_of_length_le (show r2.length ≤ k by omega), HN2.out, List.append_nil])
        have hol := OwnRs.length hO
        have e1 : (r1.drop i).length = n1 - i := by rw [List.length_drop, i1]
        have e2 : (r2.drop k).length = n2 - k := by rw [List.length_drop, i2]
        have HCO := Lib.hid (fun (b1 b2 : Option Addr) (g : Nat) (W : World) hh1 hh2 hh3 z => concat_any ab (i + k) cb O b1 (n1 - i) (c1 - i) (r1.drop i) b2 (n2 - k) (c2 - k) (r2.drop k) g W hh1 hh2 hh3 hol e1 e2 (by omega) (by omega) (by omega) z)
        rw [show i + k + (n1 - i) + (n2 - k) = n1 + n2 by omega, ← HF.out] at HCO
        have BB := Own.below hO
        have cO := Own.cs hO
        have k1 := h1.cs
        have k2 := h2.cs
        have HI := Lib.hid (And.intro i1 i2)
        clear i1 i2 e1 e2 hol HS HF HN1 HN2 HLE HGT hO
        have hd1 : decide ((i : Int) < (n1 : Int)) = true := decide_eq_true (by omega)
        have hd2 : decide ((k : Int) < (n2 : Int)) = false := decide_eq_false (by omega)
        go_upto_region 9 with fail
        refine mix_startE 11 rfl (by kernel_rfl) ?_
        intro xq hxq
        replace cO := Cs.mono cO hxq (Nat.le_refl _)
        replace BB := Below.next BB hxq
        clear hxq
        refine mix_quiet Keeps.ext 0 rfl (by kernel_rfl) rfl ?_
        intro ι U hne hU
        go_big_quiet_op
        clear hU hne U ι
        show wpAnyM _ _ _ _ _ _ _ _ _
        refine mix_quiet Keeps.ext 1 rfl (by kernel_rfl) rfl ?_
        intro ι U hne hU
        go_big_quiet_op
        clear hU hne U ι
        show wpAnyM _ _ _ _ _ _ _ _ _
        refine mix_quiet Keeps.ext 2 rfl (by kernel_rfl) rfl ?_
        intro ι U hne hU
        go_big_quiet_op
        clear hU hne U ι
        show wpAnyM _ _ _ _ _ _ _ _ _
        refine mix_quiet Keeps.ext 3 rfl (by kernel_rfl) rfl ?_
        intro ι U hne hU
        refine quiet_as _ (exec_cutR a1 n1 c1 i rfl rfl hi m1) (hne.elim fun ii => ⟨_, ii, rfl⟩) ?_
        go_big_quiet_op
        clear hU hne U ι
        show wpAnyM _ _ _ _ _ _ _ _ _
        have u1 := fun (W : World) (h : Cs W a1 (rwcells r1)) => h.rcut i c1 (by have := HI.out; omega)
        generalize (if c1 = i then a1 else Option.map (fun (x : Addr) => x.add i) a1) = A1 at u1 ⊢
        have U1 := Lib.hid u1
        clear u1
        refine mix_quiet Keeps.ext 4 rfl (by kernel_rfl) rfl ?_
        intro ι U hne hU
        go_big_quiet_op
        clear hU hne U ι
        show wpAnyM _ _ _ _ _ _ _ _ _
        refine mix_quiet Keeps.ext 5 rfl (by kernel_rfl) rfl ?_
        intro ι U hne hU
        go_big_quiet_op
        clear hU hne U ι
        show wpAnyM _ _ _ _ _ _ _ _ _
        refine mix_quiet Keeps.ext 6 rfl (by kernel_rfl) rfl ?_
        intro ι U hne hU
        refine quiet_as _ (exec_cutR a2 n2 c2 k rfl rfl hkn m2) (hne.elim fun ii => ⟨_, ii, rfl⟩) ?_
        go_big_quiet_op
        clear hU hne U ι
        show wpAnyM _ _ _ _ _ _ _ _ _
        have u2 := fun (W : World) (h : Cs W a2 (rwcells r2)) => h.rcut k c2 (by have := HI.out; omega)
        generalize (if c2 = k then a2 else Option.map (fun (x : Addr) => x.add k) a2) = A2 at u2 ⊢
        have U2 := Lib.hid u2
        clear u2
        refine mix_any 7 rfl (by kernel_rfl) rfl ?_
        go_wp2_with (first | (at_make; refine Stop.un ?_) | (at_builtin; refine Stop.un ?_))
        have z8 := At.new xq #[.slice ab (i + k) cb, .slice A1 (n1 - i) (c1 - i), .slice A2 (n2 - k) (c2 - k)] 26
        have bz := (Below.refl xq.heap.size xq).alloc (Nat.le_refl _) (.cells #[.slice ab (i + k) cb, .slice A1 (n1 - i) (c1 - i), .slice A2 (n2 - k) (c2 - k)] 26)
        refine MixPost.mk bz ?_
        replace cO := Cs.mono cO bz (Nat.le_refl _)
        replace BB := Below.next BB bz
        clear bz
        generalize xq.alloc (.cells #[.slice ab (i + k) cb, .slice A1 (n1 - i) (c1 - i), .slice A2 (n2 - k) (c2 - k)] 26) = y8 at z8 cO BB ⊢
        generalize xq.heap.size = g8 at z8 ⊢
        refine mix_any 8 rfl (by kernel_rfl) rfl ?_
        go_wp2_with (first | (at_make; refine Stop.un ?_) | (at_builtin; refine Stop.un ?_))
        refine (HCO.out A1 A2 _ _ cO (U1.out _ (k1.mono BB (Nat.le_refl _))) (U2.out _ (k2.mono BB (Nat.le_refl _))) z8).mono ?_
        rintro e w9 ⟨a9, c9, rfl, o9⟩
        have bt := Own.below o9
        have cs9 := Own.cs o9
        have le9 := owns_le o9.1
        have mx9 := owns_max o9.1
        go_wp2_with (first | (at_make; refine Stop.un ?_) | (at_builtin; refine Stop.un ?_))
        refine MixPost.mk bt ?_
        replace cO := Cs.mono cO bt (Nat.le_refl _)
        replace BB := Below.next BB bt
        replace z8 := At.mono z8 bt
        clear bt o9
        refine mix_any 9 rfl (by kernel_rfl) rfl ?_
        go_wp2_with (first | (at_make; refine Stop.un ?_) | (at_builtin; refine Stop.un ?_))
        have tM : Tab _ a9 M := ⟨cs9, fun r hr => by
          rcases List.mem_append.1 (HMP.out.mem_iff.1 hr) with hr | hr
          · exact (h1.mono BB).ok r hr
          · exact (h2.mono BB).ok r hr⟩
        refine (own_any a9 (n1 + n2) c9 M _ tM (by rw [HML.out, HL.out.1, HL.out.2]) le9 mx9 (by omega) (fun r hr => by
          rcases List.mem_append.1 (HMP.out.mem_iff.1 hr) with hr | hr
          · exact HQ.out.1 r hr
          · exact HQ.out.2 r hr)).mono ?_
        rintro e w10 ⟨g10, rs, rfl, o10, hrs⟩
        have bt := o10.below
        have OF := o10.up BB
        have HRS := Lib.hid hrs
        go_wp2_with (first | (at_make; refine Stop.un ?_) | (at_builtin; refine Stop.un ?_))
        refine MixPost.mk bt ?_
        clear bt o10 tM cs9 cO z8 hrs
        refine mix_quiet Keeps.ext 10 rfl (by kernel_rfl) rfl ?_
        intro ι U hne hU
        go_big_quiet_op
        clear hU hne U ι
        show wpAnyM _ _ _ _ _ _ _ _ _
        refine mix_end (by kernel_rfl) ?_
        go_wp2_with (first | (at_make; refine Stop.un ?_) | (at_builtin; refine Stop.un ?_))
        go_ret
        exact ⟨_, _, rfl, OF, HRS.out⟩
    · have hii : ¬ i < n1 := hlt1
      have i1 : r1.length = n1 := HL.out.1
      have i2 : r2.length = n2 := HL.out.2
      have hkk : k = k := rfl
      have HF : Hid (M = O ++ r1.drop i ++ r2.drop k) := Lib.hid (by rw [HS.out, List.drop_of_length_le (show r1.length ≤ i by omega), HN1.out, List.append_nil])
      have hol := OwnRs.length hO
      have e1 : (r1.drop i).length = n1 - i := by rw [List.length_drop, i1]
      have e2 : (r2.drop k).length = n2 - k := by rw [List.length_drop, i2]
      have HCO := Lib.hid (fun (b1 b2 : Option Addr) (g : Nat) (W : World) hh1 hh2 hh3 z => concat_any ab (i + k) cb O b1 (n1 - i) (c1 - i) (r1.drop i) b2 (n2 - k) (c2 - k) (r2.drop k) g W hh1 hh2 hh3 hol e1 e2 (by omega) (by omega) (by omega) z)
      rw [show i + k + (n1 - i) + (n2 - k) = n1 + n2 by omega, ← HF.out] at HCO
      have BB := Own.below hO
      have cO := Own.cs hO
      have k1 := h1.cs
      have k2 := h2.cs
      have HI := Lib.hid (And.intro i1 i2)
      clear i1 i2 e1 e2 hol HS HF HN1 HN2 HLE HGT hO
      have hd1 : decide ((i : Int) < (n1 : Int)) = false := decide_eq_false (by omega)
      go_upto_region 9 with fail
      refine mix_startE 11 rfl (by kernel_rfl) ?_
      intro xq hxq
      replace cO := Cs.mono cO hxq (Nat.le_refl _)
      replace BB := Below.next BB hxq
      clear hxq
      refine mix_quiet Keeps.ext 0 rfl (by kernel_rfl) rfl ?_
      intro ι U hne hU
      go_big_quiet_op
      clear hU hne U ι
      show wpAnyM _ _ _ _ _ _ _ _ _
      refine mix_quiet Keeps.ext 1 rfl (by kernel_rfl) rfl ?_
      intro ι U hne hU
      go_big_quiet_op
      clear hU hne U ι
      show wpAnyM _ _ _ _ _ _ _ _ _
      refine mix_quiet Keeps.ext 2 rfl (by kernel_rfl) rfl ?_
      intro ι U hne hU
      go_big_quiet_op
      clear hU hne U ι
      show wpAnyM _ _ _ _ _ _ _ _ _
      refine mix_quiet Keeps.ext 3 rfl (by kernel_rfl) rfl ?_
      intro ι U hne hU
      refine quiet_as _ (exec_cutR a1 n1 c1 i rfl rfl hi m1) (hne.elim fun ii => ⟨_, ii, rfl⟩) ?_
      go_big_quiet_op
      clear hU hne U ι
      show wpAnyM _ _ _ _ _ _ _ _ _
      have u1 := fun (W : World) (h : Cs W a1 (rwcells r1)) => h.rcut i c1 (by have := HI.out; omega)
      generalize (if c1 = i then a1 else Option.map (fun (x : Addr) => x.add i) a1) = A1 at u1 ⊢
      have U1 := Lib.hid u1
      clear u1
      refine mix_quiet Keeps.ext 4 rfl (by kernel_rfl) rfl ?_
      intro ι U hne hU
      go_big_quiet_op
      clear hU hne U ι
      show wpAnyM _ _ _ _ _ _ _ _ _
      refine mix_quiet Keeps.ext 5 rfl (by kernel_rfl) rfl ?_
      intro ι U hne hU
      go_big_quiet_op
      clear hU hne U ι
      show wpAnyM _ _ _ _ _ _ _ _ _
      refine mix_quiet Keeps.ext 6 rfl (by kernel_rfl) rfl ?_
      intro ι U hne hU
      refine quiet_as _ (exec_cutR a2 n2 c2 k rfl rfl hkn m2) (hne.elim fun ii => ⟨_, ii, rfl⟩) ?_
      go_big_quiet_op
      clear hU hne U ι
      show wpAnyM _ _ _ _ _ _ _ _ _
      have u2 := fun (W : World) (h : Cs W a2 (rwcells r2)) => h.rcut k c2 (by have := HI.out; omega)
      generalize (if c2 = k then a2 else Option.map (fun (x : Addr) => x.add k) a2) = A2 at u2 ⊢
      have U2 := Lib.hid u2
      clear u2
      refine mix_any 7 rfl (by kernel_rfl) rfl ?_
      go_wp2_with (first | (at_make; refine Stop.un ?_) | (at_builtin; refine Stop.un ?_))
      have z8 := At.new xq #[.slice ab (i + k) cb, .slice A1 (n1 - i) (c1 - i), .slice A2 (n2 - k) (c2 - k)] 26
      have bz := (Below.refl xq.heap.size xq).alloc (Nat.le_refl _) (.cells #[.slice ab (i + k) cb, .slice A1 (n1 - i) (c1 - i), .slice A2 (n2 - k) (c2 - k)] 26)
      refine MixPost.mk bz ?_
      replace cO := Cs.mono cO bz (Nat.le_refl _)
      replace BB := Below.next BB bz
      clear bz
      generalize xq.alloc (.cells #[.slice ab (i + k) cb, .slice A1 (n1 - i) (c1 - i), .slice A2 (n2 - k) (c2 - k)] 26) = y8 at z8 cO BB ⊢
      generalize xq.heap.size = g8 at z8 ⊢
      refine mix_any 8 rfl (by kernel_rfl) rfl ?_
      go_wp2_with (first | (at_make; refine Stop.un ?_) | (at_builtin; refine Stop.un ?_))
      refine (HCO.out A1 A2 _ _ cO (U1.out _ (k1.mono BB (Nat.le_refl _))) (U2.out _ (k2.mono BB (Nat.le_refl _))) z8).mono ?_
      rintro e w9 ⟨a9, c9, rfl, o9⟩
      have bt := Own.below o9
      have cs9 := Own.cs o9
      have le9 := owns_le o9.1
      have mx9 := owns_max o9.1
      go_wp2_with (first | (at_make; refine Stop.un ?_) | (at_builtin; refine Stop.un ?_))
      refine MixPost.mk bt ?_
      replace cO := Cs.mono cO bt (Nat.le_refl _)
      replace BB := Below.next BB bt
      replace z8 := At.mono z8 bt
      clear bt o9
      refine mix_any 9 rfl (by kernel_rfl) rfl ?_
      go_wp2_with (first | (at_make; refine Stop.un ?_) | (at_builtin; refine Stop.un ?_))
      have tM : Tab _ a9 M := ⟨cs9, fun r hr => by
        rcases List.mem_append.1 (HMP.out.mem_iff.1 hr) with hr | hr
        · exact (h1.mono BB).ok r hr
        · exact (h2.mono BB).ok r hr⟩
      refine (own_any a9 (n1 + n2) c9 M _ tM (by rw [HML.out, HL.out.1, HL.out.2]) le9 mx9 (by omega) (fun r hr => by
        rcases List.mem_append.1 (HMP.out.mem_iff.1 hr) with hr | hr
        · exact HQ.out.1 r hr
        · exact HQ.out.2 r hr)).mono ?_
      rintro e w10 ⟨g10, rs, rfl, o10, hrs⟩
      have bt := o10.below
      have OF := o10.up BB
      have HRS := Lib.hid hrs
      go_wp2_with (first | (at_make; refine Stop.un ?_) | (at_builtin; refine Stop.un ?_))
      refine MixPost.mk bt ?_
      clear bt o10 tM cs9 cO z8 hrs
      refine mix_quiet Keeps.ext 10 rfl (by kernel_rfl) rfl ?_
      intro ι U hne hU
      go_big_quiet_op
      clear hU hne U ι
      show wpAnyM _ _ _ _ _ _ _ _ _
      refine mix_end (by kernel_rfl) ?_
      go_wp2_with (first | (at_make; refine Stop.un ?_) | (at_builtin; refine Stop.un ?_))
      go_ret
      exact ⟨_, _, rfl, OF, HRS.out⟩
end Go.Proofs.Ytoggjieagnlneaa
