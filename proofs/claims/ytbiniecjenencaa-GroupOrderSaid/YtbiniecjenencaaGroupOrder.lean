/- GroupOrder. -/
import Derived.Test.YtbiniecjenencaaGSet
import Derived.Test.YtbiniecjenencaaGPerm
import Derived.Test.YtbiniecjenencaaCutR
import Derived.Test.YtbiniecjenencaaOSame
set_option linter.unusedVariables false
set_option linter.unusedSimpArgs false
set_option maxRecDepth 10000
namespace Go.Proofs.Ytbiniecjenencaa
open Go.RowKit
def cutA (ao : Option Addr) (cap k : Nat) : Option Addr := if cap = k then ao else ao.map fun x => x.add k
theorem exec_cutA {ρ : Operand → Value} {x lo : Operand} {dst : Option Tmp} {ty : TypeId} {pos : String} {af : Array Edge} {g : Option (Nat × Bool)} (ao : Option Addr) (n cap k : Nat) (hx : ρ x = .slice ao n cap) (hlo : ρ lo = .int .i64 (k : Int)) (hk : k ≤ n) (hn : n ≤ cap) (w : World) :
    (execOp ρ ⟨dst, .slice 23 x (some lo) none none, ty, pos, af, g⟩).run Try.prog w = .ok (.value (.slice (cutA ao cap k) (n - k) (cap - k))) w := exec_cutR ao n cap k hx hlo hk hn w
theorem exec_takeA {ρ : Operand → Value} {x hi : Operand} {dst : Option Tmp} {ty : TypeId} {pos : String} {af : Array Edge} {g : Option (Nat × Bool)} (ao : Option Addr) (n cap k : Nat) (hx : ρ x = .slice ao n cap) (hhi : ρ hi = .int .i64 (k : Int)) (hk : k ≤ n) (hn : n ≤ cap) (w : World) :
    (execOp ρ ⟨dst, .slice 23 x none (some hi) none, ty, pos, af, g⟩).run Try.prog w = .ok (.value (.slice ao k cap)) w := by
  have h1 : (k : Int) ≤ (cap : Int) := by omega
  have h3 : 0 ≤ (k : Int) := by omega
  have h4 : k ≤ cap := by omega
  simp [execOp, hx, hhi, go_sem, h1, h3, h4]
theorem OwnRs.storedO {w0 w : World} {n g cap : Nat} {xs : List Rw} (h : OwnRs w0 w (.slice (some ⟨g, 0, none⟩) n cap) n xs) (j : Nat) (r : Rw) : OwnRs w0 (w.setCell ⟨g, j, none⟩ (.slice r.a r.n r.cap)) (.slice (some ⟨g, 0, none⟩) n cap) n (xs.set j r) := by
  have h2 : Own w0 (w.setCell ⟨g, j, none⟩ (.slice r.a r.n r.cap)) 36 1 (.slice (some ⟨g, 0, none⟩) n cap) n ((rwcells xs).set j (.slice r.a r.n r.cap)) := ⟨(h.1.stored j _).1, h.2.setCell (p := ⟨g, j, none⟩) (Own.ge h g rfl) _⟩
  rwa [show (rwcells xs).set j (.slice r.a r.n r.cap) = rwcells (xs.set j r) by simp [rwcells, Rw.sl]] at h2
theorem Cs.leftO {w : World} {ao : Option Addr} {xs ys : List Value} (h : Cs w ao (xs ++ ys)) : Cs w ao xs := fun j u hj => h j u (by rw [List.getElem?_append_left (List.getElem?_eq_some_iff.1 hj).1]; exact hj)
set_option maxRecDepth 100000 in
set_option maxHeartbeats 16000000 in
theorem groupOrder_any (x : GSt) (av : Int) (rv : Bool) (w : World) (h : StOk w x) (hv : ∀ r ∈ x.rows, ∀ u ∈ r.l, u.ok) (ha0 : 0 ≤ av) (ha1 : av ≤ 255) :
    Calls Try.prog 7 #[x.val, .int .u8 av, .bool rv] w (fun e w' => e = .returned (.bool true) ∧ Below w.heap.size w w') := by
  have HFW := Lib.hid (fun W (h : StOk W x) => few_any22 x W h)
  obtain ⟨ka, kn, kc, kinds, ra, rn, rc, rows, ba, bn, bc, bs, ga, gn, gc, ags⟩ := x
  have z := At.new w #[.slice ka kn kc, .slice ra rn rc, .slice ba bn bc, .slice ga gn gc] 27
  have b0 := (Below.refl w.heap.size w).alloc (Nat.le_refl _) (.cells #[.slice ka kn kc, .slice ra rn rc, .slice ba bn bc, .slice ga gn gc] 27)
  have HOK := Lib.hid h
  have hkm : kn ≤ kc := h.km
  have hrm : rn ≤ rc := h.rm
  have hbm : bn ≤ bc := h.bm
  have hgm : gn ≤ gc := h.gm
  have hkx : kc ≤ 9223372036854775807 := h.kx
  have hrx : rc ≤ 9223372036854775807 := h.rx
  have hbx : bc ≤ 9223372036854775807 := h.bx
  have hgx : gc ≤ 9223372036854775807 := h.gx
  clear h
  have HV := Lib.hid hv
  clear hv
  simp only [GSt.val] at HFW HV ⊢
  go_enter Try.func7, Try.ntmps7
  go_upto_region 1 with fail
  generalize w.alloc (.cells #[.slice ka kn kc, .slice ra rn rc, .slice ba bn bc, .slice ga gn gc] 27) = wA at z b0 ⊢
  obtain ⟨gz, hgz⟩ : ∃ g, w.heap.size = g := ⟨_, rfl⟩
  rw [hgz] at z ⊢
  clear hgz
  go_wp2_with (first | (at_make; refine Stop.un ?_) | (at_builtin; refine Stop.un ?_) | (with_reducible refine Stop.conv 22 9 ?_) | (with_reducible refine Stop.conv 9 22 ?_))
  refine (shown_any22 _).mono ?_
  rintro e w1 ⟨rfl, bt⟩
  replace z := z.mono bt
  replace b0 := b0.next bt
  clear bt
  have c0 := z.cell 0 rfl
  have c1 := z.cell 1 rfl
  have c2 := z.cell 2 rfl
  have c3 := z.cell 3 rfl
  have HF1 := Lib.hid (HFW.out w1 (HOK.out.mono b0))
  clear HFW
  go_wp2_with (first | (at_make; refine Stop.un ?_) | (at_builtin; refine Stop.un ?_) | (with_reducible refine Stop.conv 22 9 ?_) | (with_reducible refine Stop.conv 9 22 ?_))
  refine HF1.out.mono ?_
  rintro e w2 ⟨q, rfl, bt, hq⟩
  replace z := z.mono bt
  replace b0 := b0.next bt
  clear bt HF1 c0 c1 c2 c3
  have c2 := z.cell 2 rfl
  cases q with
  | false =>
    clear hq
    go_wp2_with (first | (at_make; refine Stop.un ?_) | (at_builtin; refine Stop.un ?_) | (with_reducible refine Stop.conv 22 9 ?_) | (with_reducible refine Stop.conv 9 22 ?_))
    go_ret
    exact ⟨by first | rfl | simp, b0⟩
  | true =>
    have hF := hq rfl
    have hkn : kn ≤ 12 := hF.k
    have hbn : bn ≤ 12 := hF.b
    have hrn : rn ≤ 60 := hF.r
    have hgn : gn ≤ 12 := hF.g
    have HFW := Lib.hid hF.w
    clear hq hF
    have c1 := z.cell 1 rfl
    obtain ⟨k, hk, hkr⟩ : ∃ k : Nat, av % ((rn : Int) + 1) = (k : Int) ∧ k ≤ rn := ⟨(av % ((rn : Int) + 1)).toNat, by have := Int.emod_nonneg av (show (rn : Int) + 1 ≠ 0 by omega); omega, by have := Int.emod_lt_of_pos av (show (0 : Int) < (rn : Int) + 1 by omega); have := Int.emod_nonneg av (show (rn : Int) + 1 ≠ 0 by omega); omega⟩
    have hk2 : av.tmod ((rn : Int) + 1) = (k : Int) := by rw [Int.tmod_eq_emod_of_nonneg ha0]; exact hk
    go_upto_region 5 with fail
    have T0 : Tab w2 ra rows := (HOK.out.mono b0).r
    have hrl : rows.length = rn := HOK.out.rl
    have T := T0
    have z0 := z
    have z_b : gz < w2.heap.size := z.lt
    have HD : Hid ((rows.drop k).length = rn - k) := Lib.hid (by rw [List.length_drop, hrl])
    have HTK : Hid ((rows.take k).length = k) := Lib.hid (by rw [List.length_take, hrl]; omega)
    have HCC : Hid (∀ W, Tab W ra rows → Cs W (cutA ra rc k) (rwcells (rows.drop k))) := Lib.hid (fun W t => t.cs.rcut k rc (by omega))
    have HTC : Hid (∀ W, Tab W ra rows → Cs W ra (rwcells (rows.take k))) := Lib.hid (fun W t => by
      have h2 := t.cs
      rw [← List.take_append_drop k rows, rwcells_append] at h2
      exact h2.leftO)
    have HSZ : Hid (w2.heap.size ≤ w2.heap.size) := Lib.hid (Nat.le_refl _)
    have HP : Hid (rows.Perm (rows.drop k ++ rows.take k)) := Lib.hid (by
      have h2 := List.perm_append_comm (l₁ := rows.take k) (l₂ := rows.drop k)
      rwa [List.take_append_drop] at h2)
    clear c1 c2 hk hk2
    refine mix_startX (w2.heap.size) none 12 rfl (by kernel_rfl) ?_
    intro xq hxq
    replace T := Tab.mono T hxq
    replace z := At.mono z hxq
    replace HSZ := Lib.hid (Nat.le_trans (Hid.out HSZ) (Below.size hxq))
    have hxB := hxq
    clear hxq
    refine mix_quiet (Keeps.rx (w2.heap.size) none) 1 rfl (by kernel_rfl) rfl ?_
    intro ι U hne hU
    go_big_quiet_op
    clear hU hne U ι
    show wpAnyM _ _ _ _ _ _ _ _ _
    refine mix_quiet (Keeps.rx (w2.heap.size) none) 2 rfl (by kernel_rfl) rfl ?_
    intro ι U hne hU
    have hcw0 := fun ii => (RX.at (hU ii) z z_b).cell 1 rfl
    go_big_quiet_op
    clear hU hne hcw0 U ι
    show wpAnyM _ _ _ _ _ _ _ _ _
    refine mix_quiet (Keeps.rx (w2.heap.size) none) 3 rfl (by kernel_rfl) rfl ?_
    intro ι U hne hU
    go_big_quiet_op
    clear hU hne U ι
    show wpAnyM _ _ _ _ _ _ _ _ _
    refine mix_quiet (Keeps.rx (w2.heap.size) none) 4 rfl (by kernel_rfl) rfl ?_
    intro ι U hne hU
    refine quiet_as _ (exec_cutA ra rn rc k rfl rfl hkr hrm) (hne.elim fun ii => ⟨_, ii, rfl⟩) ?_
    go_big_quiet_op
    clear hU hne U ι
    show wpAnyM _ _ _ _ _ _ _ _ _
    refine mix_quiet (Keeps.rx (w2.heap.size) none) 6 rfl (by kernel_rfl) rfl ?_
    intro ι U hne hU
    go_big_quiet_op
    clear hU hne U ι
    show wpAnyM _ _ _ _ _ _ _ _ _
    refine mix_quiet (Keeps.rx (w2.heap.size) none) 7 rfl (by kernel_rfl) rfl ?_
    intro ι U hne hU
    have hcw0 := fun ii => (RX.at (hU ii) z z_b).cell 1 rfl
    go_big_quiet_op
    clear hU hne hcw0 U ι
    show wpAnyM _ _ _ _ _ _ _ _ _
    refine mix_quiet (Keeps.rx (w2.heap.size) none) 8 rfl (by kernel_rfl) rfl ?_
    intro ι U hne hU
    go_big_quiet_op
    clear hU hne U ι
    show wpAnyM _ _ _ _ _ _ _ _ _
    refine mix_quiet (Keeps.rx (w2.heap.size) none) 9 rfl (by kernel_rfl) rfl ?_
    intro ι U hne hU
    refine quiet_as _ (exec_takeA ra rn rc k rfl rfl hkr hrm) (hne.elim fun ii => ⟨_, ii, rfl⟩) ?_
    go_big_quiet_op
    clear hU hne U ι
    show wpAnyM _ _ _ _ _ _ _ _ _
    refine mix_any 0 rfl (by kernel_rfl) rfl ?_
    go_wp2_with (first | (at_make; refine Stop.un ?_) | (at_builtin; refine Stop.un ?_) | (with_reducible refine Stop.conv 22 9 ?_) | (with_reducible refine Stop.conv 9 22 ?_))
    have bq0 := (Below.refl xq.heap.size xq).alloc (Nat.le_refl _) (.cells #[] 36)
    have hO0 : OwnRs w2 (xq.alloc (.cells #[] 36)) (.slice (some ⟨xq.heap.size, 0, none⟩) 0 0) 0 [] := Own.block hxB rfl (by decide)
    refine MixPost.mk (RX.ext bq0 (Hid.out HSZ)) ?_
    replace T := Tab.mono T bq0
    replace z := At.mono z bq0
    replace HSZ := Lib.hid (Nat.le_trans (Hid.out HSZ) (Below.size bq0))
    clear bq0
    refine mix_any 5 rfl (by kernel_rfl) rfl ?_
    go_wp2_with (first | (at_make; refine Stop.un ?_) | (at_builtin; refine Stop.un ?_) | (with_reducible refine Stop.conv 22 9 ?_) | (with_reducible refine Stop.conv 9 22 ?_))
    refine Stop.mk (app_rws w2 _ _ rfl rfl hO0 rfl rfl (m := rn - k) HD.out (HCC.out _ T) (by omega) ?_)
    intro a5 c5 w5 O5 g5 k5
    have gx5 : RX w2.heap.size none _ w5 := RX.grown g5 (Hid.out HSZ) (fun q e => .inl (Own.ge hO0 q e))
    simp only [Nat.zero_add, List.nil_append] at O5 ⊢
    go_wp2_with (first | (at_make; refine Stop.un ?_) | (at_builtin; refine Stop.un ?_) | (with_reducible refine Stop.conv 22 9 ?_) | (with_reducible refine Stop.conv 9 22 ?_))
    refine MixPost.mk gx5 ?_
    clear g5 k5 gx5 hO0
    replace T := T0.mono (Own.below O5)
    replace z := z0.mono (Own.below O5)
    replace HSZ := Lib.hid (Below.size (Own.below O5))
    refine mix_any 10 rfl (by kernel_rfl) rfl ?_
    go_wp2_with (first | (at_make; refine Stop.un ?_) | (at_builtin; refine Stop.un ?_) | (with_reducible refine Stop.conv 22 9 ?_) | (with_reducible refine Stop.conv 9 22 ?_))
    refine Stop.mk (app_rws w2 _ _ rfl rfl O5 rfl rfl (m := k) HTK.out (HTC.out _ T) (by omega) ?_)
    intro a6 c6 w6 O6 g6 k6
    have gx6 : RX w2.heap.size none _ w6 := RX.grown g6 (Hid.out HSZ) (fun q e => .inl (Own.ge O5 q e))
    go_wp2_with (first | (at_make; refine Stop.un ?_) | (at_builtin; refine Stop.un ?_) | (with_reducible refine Stop.conv 22 9 ?_) | (with_reducible refine Stop.conv 9 22 ?_))
    refine MixPost.mk gx6 ?_
    clear g6 k6 gx6 O5
    replace T := T0.mono (Own.below O6)
    replace z := z0.mono (Own.below O6)
    replace HSZ := Lib.hid (Below.size (Own.below O6))
    refine mix_quiet (Keeps.rx (w2.heap.size) none) 11 rfl (by kernel_rfl) rfl ?_
    intro ι U hne hU
    go_big_quiet_op
    clear hU hne U ι
    show wpAnyM _ _ _ _ _ _ _ _ _
    refine mix_end (by kernel_rfl) ?_
    rw [show rn - k + k = rn by omega] at O6
    generalize rows.drop k ++ rows.take k = rs at O6 HP
    clear T T0 z_b HSZ hxB HD HTK HCC HTC hkr z
    have O := O6
    clear O6
    obtain ⟨wX, hwX⟩ : ∃ wX, w6 = wX := ⟨_, rfl⟩
    rw [hwX] at O ⊢
    clear hwX
    cases rv with
    | false =>
      have z := z0.mono (Own.below O)
      clear z0
      have bX := b0.next (Own.below O)
      have ok := HOK.out.mono bX
      have hrs : rs.length = rn := OwnRs.length O
      have hml : ∀ r ∈ rs, r ∈ rows := fun r h => HP.out.mem_iff.2 h
      have c0 := z.cell 0 rfl
      have c1 := z.cell 1 rfl
      have c2 := z.cell 2 rfl
      have c3 := z.cell 3 rfl
      have hleO := owns_le O.1
      have hmxO : c6 ≤ 9223372036854775807 := owns_max O.1
      have hgp := grp_perm kinds (HP.out.map (·.l)) bs ags (fun r hr v hv => by
        obtain ⟨y, hy, rfl⟩ := List.mem_map.1 hr
        have := HV.out y hy v hv
        exact ⟨this.2.2.1, this.2.2.2.1⟩) (by rw [List.length_map, hrl]; omega)
      have HGR := Lib.hid (grows_any ka kn kc kinds ra rn rc rows ba bn bc bs ga gn gc ags wX ok.k ok.kl hkm hkx ok.r ok.rl hrm hrx (by omega) (fun r h => by have := HFW.out r h; omega) ok.b ok.bl hbm hbx (by omega) ok.g ok.gl hgm hgx (by omega))
      have HG2 := Lib.hid (fun W (s : StOk W ⟨ka, kn, kc, kinds, ra, rn, rc, rows, ba, bn, bc, bs, ga, gn, gc, ags⟩) (t : Tab W a6 rs) => grows_any ka kn kc kinds a6 rn c6 rs ba bn bc bs ga gn gc ags W s.k s.kl hkm hkx t hrs hleO hmxO (by omega) (fun r h => by have := HFW.out r (hml r h); omega) s.b s.bl hbm hbx (by omega) s.g s.gl hgm hgx (by omega))
      rw [← hgp] at HG2
      generalize grpB kinds (rows.map (·.l)) bs ags = res at HGR HG2
      obtain ⟨er, G⟩ := res
      have HML := Lib.hid hml
      clear hgp ok hrs hml hrl HP HV
      go_wp2_with (first | (at_make; refine Stop.un ?_) | (at_builtin; refine Stop.un ?_) | (with_reducible refine Stop.conv 22 9 ?_) | (with_reducible refine Stop.conv 9 22 ?_))
      refine HGR.out.mono ?_
      rintro e w7 ⟨aA, nA, cA, rA, rfl, MA, hA⟩
      simp only at hA ⊢
      have bt := Own.below MA.O
      have HA := Lib.hid hA
      replace z := z.mono bt
      replace bX := bX.next bt
      have O2 := Own.keep O bt
      clear HGR hA bt O c0 c1 c2 c3
      have c0 := z.cell 0 rfl
      have c1 := z.cell 1 rfl
      have c2 := z.cell 2 rfl
      have c3 := z.cell 3 rfl
      have HG3 := Lib.hid (HG2.out w7 (HOK.out.mono bX) ⟨Own.cs O2, fun r hr => (HOK.out.mono bX).r.ok r (HML.out r hr)⟩)
      clear HG2 O2
      go_wp2_with (first | (at_make; refine Stop.un ?_) | (at_builtin; refine Stop.un ?_) | (with_reducible refine Stop.conv 22 9 ?_) | (with_reducible refine Stop.conv 9 22 ?_))
      refine HG3.out.mono ?_
      rintro e w8 ⟨aB, nB, cB, rB, rfl, MB, hB⟩
      simp only at hB ⊢
      have bt := Own.below MB.O
      have MA2 := MA.below bt
      replace bX := bX.next bt
      clear HG3 z c0 c1 c2 c3 MA bt
      have hSR := samerows_any aA nA cA rA aB nB cB rB w8 ⟨Own.cs MA2.O, fun r hr => (MA2.F r hr).1⟩ ⟨Own.cs MB.O, fun r hr => (MB.F r hr).1⟩ (OwnRs.length MA2.O) (OwnRs.length MB.O) (owns_le MA2.O.1) (owns_le MB.O.1) (owns_max MA2.O.1) (owns_max MB.O.1)
      rw [HA.out, hB, decide_eq_true rfl] at hSR
      have HSR := Lib.hid hSR
      clear hSR hB HA MA2 MB
      go_wp2_with (first | (at_make; refine Stop.un ?_) | (at_builtin; refine Stop.un ?_) | (with_reducible refine Stop.conv 22 9 ?_) | (with_reducible refine Stop.conv 9 22 ?_))
      refine HSR.out.mono ?_
      rintro e w9 ⟨rfl, bt⟩
      replace bX := bX.next bt
      clear bt HSR
      go_wp2_with (first | (at_make; refine Stop.un ?_) | (at_builtin; refine Stop.un ?_) | (with_reducible refine Stop.conv 22 9 ?_) | (with_reducible refine Stop.conv 9 22 ?_))
      go_ret
      exact ⟨by first | rfl | simp, bX⟩
    | true =>
      obtain ⟨m, hm⟩ : ∃ m, rn / 2 = m := ⟨_, rfl⟩
      have hm2 : 2 * m ≤ rn := by omega
      have hmd : (rn : Int).tdiv 2 = (m : Int) := by rw [Int.tdiv_eq_ediv_of_nonneg (by omega)]; omega
      have hme : (rn : Int) / 2 = (m : Int) := by omega
      clear hm
      go_wp2_with (first | (at_make; refine Stop.un ?_) | (at_builtin; refine Stop.un ?_) | (with_reducible refine Stop.conv 22 9 ?_) | (with_reducible refine Stop.conv 9 22 ?_))
      go_loopw [42] (fun iv wr => ∃ (i : Nat) (rs : List Rw), i ≤ m ∧ iv = .int .i64 (i : Int) ∧ OwnRs w2 wr (.slice a6 rn c6) rn rs ∧ Hid (rows.Perm rs)) (fun iv _ => m - (intOf iv).toNat)
      case atStart => exact ⟨0, rs, Nat.zero_le _, rfl, O, HP⟩
      case round =>
        clear HP O
        obtain ⟨i, rs, hi, rfl, O, HP⟩ := hrel
        by_cases hlt : i < m
        ·
          obtain ⟨-, g, rfl, hg0, hg1⟩ := owns_at O.1 (by omega)
          have hrs : rs.length = rn := OwnRs.length O
          obtain ⟨j, hj⟩ : ∃ j, j = rn - 1 - i := ⟨_, rfl⟩
          have hij : i < j ∧ j < rn := by omega
          have hjI : (rn : Int) - 1 - (i : Int) = (j : Int) := by omega
          clear hj
          have hi2 : i < rs.length := by omega
          have hj2 : j < rs.length := by omega
          have x1 : wr.cell? ⟨g, i, none⟩ = some (.slice rs[i].a rs[i].n rs[i].cap) := by
            have := (Own.cs O).at (b := g) (o := 0) (j := i) (u := .slice rs[i].a rs[i].n rs[i].cap) (by simp [rwcells, hi2, Rw.sl])
            rwa [Nat.zero_add] at this
          have x2 : wr.cell? ⟨g, j, none⟩ = some (.slice rs[j].a rs[j].n rs[j].cap) := by
            have := (Own.cs O).at (b := g) (o := 0) (j := j) (u := .slice rs[j].a rs[j].n rs[j].cap) (by simp [rwcells, hj2, Rw.sl])
            rwa [Nat.zero_add] at this
          have HS : Hid (rows.Perm ((rs.set i rs[j]).set j rs[i])) := Lib.hid (HP.out.trans (List.set_set_perm hi2 hj2).symm)
          generalize rs[i] = ri at x1 HS
          generalize rs[j] = rj at x2 HS
          clear HP hi2 hj2 hrs
          have hle6 := owns_le O.1
          go_upto_region 10 with fail
          refine mixL_start (fun i => i == 21 || i == 23) 24 rfl (by kernel_rfl) ?_
          intro xq hxq hsq
          replace O := Own.keep O hxq
          replace x1 := Ext.cell hxq x1
          replace x2 := Ext.cell hxq x2
          have f1 := O.1.frozenAt i
          have f2 := O.1.frozenAt j
          have hgl := lt_cell x1
          refine mixL_pure 0 rfl (by kernel_rfl) rfl ?_
          intro ι U hne
          go_big_quiet_op
          clear hne U ι
          show wpAnyL _ _ _ _ _ _ _ _ _ _
          refine mixL_pure 1 rfl (by kernel_rfl) rfl ?_
          intro ι U hne
          go_big_quiet_op
          clear hne U ι
          show wpAnyL _ _ _ _ _ _ _ _ _ _
          refine mixL_pure 2 rfl (by kernel_rfl) rfl ?_
          intro ι U hne
          go_big_quiet_op
          clear hne U ι
          show wpAnyL _ _ _ _ _ _ _ _ _ _
          refine mixL_pure 3 rfl (by kernel_rfl) rfl ?_
          intro ι U hne
          go_big_quiet_op
          clear hne U ι
          show wpAnyL _ _ _ _ _ _ _ _ _ _
          refine mixL_pure 4 rfl (by kernel_rfl) rfl ?_
          intro ι U hne
          go_big_quiet_op
          clear hne U ι
          show wpAnyL _ _ _ _ _ _ _ _ _ _
          refine mixL_pure 5 rfl (by kernel_rfl) rfl ?_
          intro ι U hne
          go_big_quiet_op
          clear hne U ι
          show wpAnyL _ _ _ _ _ _ _ _ _ _
          refine mixL_pure 6 rfl (by kernel_rfl) rfl ?_
          intro ι U hne
          go_big_quiet_op
          clear hne U ι
          show wpAnyL _ _ _ _ _ _ _ _ _ _
          refine mixL_pure 7 rfl (by kernel_rfl) rfl ?_
          intro ι U hne
          go_big_quiet_op
          clear hne U ι
          show wpAnyL _ _ _ _ _ _ _ _ _ _
          refine mixL_pure 8 rfl (by kernel_rfl) rfl ?_
          intro ι U hne
          go_big_quiet_op
          clear hne U ι
          show wpAnyL _ _ _ _ _ _ _ _ _ _
          refine mixL_pure 9 rfl (by kernel_rfl) rfl ?_
          intro ι U hne
          go_big_quiet_op
          clear hne U ι
          show wpAnyL _ _ _ _ _ _ _ _ _ _
          refine mixL_pure 10 rfl (by kernel_rfl) rfl ?_
          intro ι U hne
          go_big_quiet_op
          clear hne U ι
          show wpAnyL _ _ _ _ _ _ _ _ _ _
          refine mixL_pure 11 rfl (by kernel_rfl) rfl ?_
          intro ι U hne
          go_big_quiet_op
          clear hne U ι
          show wpAnyL _ _ _ _ _ _ _ _ _ _
          refine mixL_pure 12 rfl (by kernel_rfl) rfl ?_
          intro ι U hne
          go_big_quiet_op
          clear hne U ι
          show wpAnyL _ _ _ _ _ _ _ _ _ _
          refine mixL_pure 13 rfl (by kernel_rfl) rfl ?_
          intro ι U hne
          go_big_quiet_op
          clear hne U ι
          show wpAnyL _ _ _ _ _ _ _ _ _ _
          refine mixL_pure 14 rfl (by kernel_rfl) rfl ?_
          intro ι U hne
          go_big_quiet_op
          clear hne U ι
          show wpAnyL _ _ _ _ _ _ _ _ _ _
          refine mixL_read 15 rfl (by kernel_rfl) (by kernel_rfl) rfl ?_
          intro ι U hne hU
          have hcw0 := fun ii => cell_same (hU ii) x1
          have hcw1 := fun ii => cell_same (hU ii) x2
          go_big_quiet_op
          clear hU hne hcw0 hcw1 U ι
          show wpAnyL _ _ _ _ _ _ _ _ _ _
          refine mixL_pure 16 rfl (by kernel_rfl) rfl ?_
          intro ι U hne
          go_big_quiet_op
          clear hne U ι
          show wpAnyL _ _ _ _ _ _ _ _ _ _
          refine mixL_pure 17 rfl (by kernel_rfl) rfl ?_
          intro ι U hne
          go_big_quiet_op
          clear hne U ι
          show wpAnyL _ _ _ _ _ _ _ _ _ _
          refine mixL_pure 18 rfl (by kernel_rfl) rfl ?_
          intro ι U hne
          go_big_quiet_op
          clear hne U ι
          show wpAnyL _ _ _ _ _ _ _ _ _ _
          refine mixL_read 19 rfl (by kernel_rfl) (by kernel_rfl) rfl ?_
          intro ι U hne hU
          have hcw0 := fun ii => cell_same (hU ii) x1
          have hcw1 := fun ii => cell_same (hU ii) x2
          go_big_quiet_op
          clear hU hne hcw0 hcw1 U ι
          show wpAnyL _ _ _ _ _ _ _ _ _ _
          refine mixL_pure 20 rfl (by kernel_rfl) rfl ?_
          intro ι U hne
          go_big_quiet_op
          clear hne U ι
          show wpAnyL _ _ _ _ _ _ _ _ _ _
          refine mixL_late 21 rfl (by kernel_rfl) rfl rfl ?_
          go_wp2_with (first | (at_make; refine Stop.un ?_) | (at_builtin; refine Stop.un ?_) | (with_reducible refine Stop.conv 22 9 ?_) | (with_reducible refine Stop.conv 9 22 ?_))
          refine MixL.mk ?_
          refine mixL_pure 22 rfl (by kernel_rfl) rfl ?_
          intro ι U hne
          go_big_quiet_op
          clear hne U ι
          show wpAnyL _ _ _ _ _ _ _ _ _ _
          refine mixL_late 23 rfl (by kernel_rfl) rfl rfl ?_
          go_wp2_with (first | (at_make; refine Stop.un ?_) | (at_builtin; refine Stop.un ?_) | (with_reducible refine Stop.conv 22 9 ?_) | (with_reducible refine Stop.conv 9 22 ?_))
          refine MixL.mk ?_
          refine mixL_end (by kernel_rfl) ?_
          have O2 := (OwnRs.storedO O i rj).storedO j ri
          clear x1 x2 f1 f2 hgl hxq hsq O
          generalize (xq.setCell ⟨g, i, none⟩ (.slice rj.a rj.n rj.cap)).setCell ⟨g, j, none⟩ (.slice ri.a ri.n ri.cap) = w9 at O2 ⊢
          go_wp2_with (first | (at_make; refine Stop.un ?_) | (at_builtin; refine Stop.un ?_) | (with_reducible refine Stop.conv 22 9 ?_) | (with_reducible refine Stop.conv 9 22 ?_))
          go_roundw
          case rel => exact ⟨i + 1, _, by omega, by go_num, O2, HS⟩
          case measure => simp [intOf] <;> omega
        ·
          have z := z0.mono (Own.below O)
          clear z0
          have bX := b0.next (Own.below O)
          have ok := HOK.out.mono bX
          have hrs : rs.length = rn := OwnRs.length O
          have hml : ∀ r ∈ rs, r ∈ rows := fun r h => HP.out.mem_iff.2 h
          have c0 := z.cell 0 rfl
          have c1 := z.cell 1 rfl
          have c2 := z.cell 2 rfl
          have c3 := z.cell 3 rfl
          have hleO := owns_le O.1
          have hmxO : c6 ≤ 9223372036854775807 := owns_max O.1
          have hgp := grp_perm kinds (HP.out.map (·.l)) bs ags (fun r hr v hv => by
            obtain ⟨y, hy, rfl⟩ := List.mem_map.1 hr
            have := HV.out y hy v hv
            exact ⟨this.2.2.1, this.2.2.2.1⟩) (by rw [List.length_map, hrl]; omega)
          have HGR := Lib.hid (grows_any ka kn kc kinds ra rn rc rows ba bn bc bs ga gn gc ags wr ok.k ok.kl hkm hkx ok.r ok.rl hrm hrx (by omega) (fun r h => by have := HFW.out r h; omega) ok.b ok.bl hbm hbx (by omega) ok.g ok.gl hgm hgx (by omega))
          have HG2 := Lib.hid (fun W (s : StOk W ⟨ka, kn, kc, kinds, ra, rn, rc, rows, ba, bn, bc, bs, ga, gn, gc, ags⟩) (t : Tab W a6 rs) => grows_any ka kn kc kinds a6 rn c6 rs ba bn bc bs ga gn gc ags W s.k s.kl hkm hkx t hrs hleO hmxO (by omega) (fun r h => by have := HFW.out r (hml r h); omega) s.b s.bl hbm hbx (by omega) s.g s.gl hgm hgx (by omega))
          rw [← hgp] at HG2
          generalize grpB kinds (rows.map (·.l)) bs ags = res at HGR HG2
          obtain ⟨er, G⟩ := res
          have HML := Lib.hid hml
          clear hgp ok hrs hml hrl HP HV
          go_wp2_with (first | (at_make; refine Stop.un ?_) | (at_builtin; refine Stop.un ?_) | (with_reducible refine Stop.conv 22 9 ?_) | (with_reducible refine Stop.conv 9 22 ?_))
          refine HGR.out.mono ?_
          rintro e w7 ⟨aA, nA, cA, rA, rfl, MA, hA⟩
          simp only at hA ⊢
          have bt := Own.below MA.O
          have HA := Lib.hid hA
          replace z := z.mono bt
          replace bX := bX.next bt
          have O2 := Own.keep O bt
          clear HGR hA bt O c0 c1 c2 c3
          have c0 := z.cell 0 rfl
          have c1 := z.cell 1 rfl
          have c2 := z.cell 2 rfl
          have c3 := z.cell 3 rfl
          have HG3 := Lib.hid (HG2.out w7 (HOK.out.mono bX) ⟨Own.cs O2, fun r hr => (HOK.out.mono bX).r.ok r (HML.out r hr)⟩)
          clear HG2 O2
          go_wp2_with (first | (at_make; refine Stop.un ?_) | (at_builtin; refine Stop.un ?_) | (with_reducible refine Stop.conv 22 9 ?_) | (with_reducible refine Stop.conv 9 22 ?_))
          refine HG3.out.mono ?_
          rintro e w8 ⟨aB, nB, cB, rB, rfl, MB, hB⟩
          simp only at hB ⊢
          have bt := Own.below MB.O
          have MA2 := MA.below bt
          replace bX := bX.next bt
          clear HG3 z c0 c1 c2 c3 MA bt
          have hSR := samerows_any aA nA cA rA aB nB cB rB w8 ⟨Own.cs MA2.O, fun r hr => (MA2.F r hr).1⟩ ⟨Own.cs MB.O, fun r hr => (MB.F r hr).1⟩ (OwnRs.length MA2.O) (OwnRs.length MB.O) (owns_le MA2.O.1) (owns_le MB.O.1) (owns_max MA2.O.1) (owns_max MB.O.1)
          rw [HA.out, hB, decide_eq_true rfl] at hSR
          have HSR := Lib.hid hSR
          clear hSR hB HA MA2 MB
          go_wp2_with (first | (at_make; refine Stop.un ?_) | (at_builtin; refine Stop.un ?_) | (with_reducible refine Stop.conv 22 9 ?_) | (with_reducible refine Stop.conv 9 22 ?_))
          refine HSR.out.mono ?_
          rintro e w9 ⟨rfl, bt⟩
          replace bX := bX.next bt
          clear bt HSR
          go_wp2_with (first | (at_make; refine Stop.un ?_) | (at_builtin; refine Stop.un ?_) | (with_reducible refine Stop.conv 22 9 ?_) | (with_reducible refine Stop.conv 9 22 ?_))
          go_ret
          exact ⟨by first | rfl | simp, bX⟩
end Go.Proofs.Ytbiniecjenencaa
