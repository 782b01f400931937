/- Numbers as bytes, run by run: what the program and the reference return. -/
import Derived.Test.YtkgcjafediimnaaRROf
import Derived.Test.YtkgcjafediimnaaRef
import Derived.Test.YtkgcjafediimnaaAt
set_option linter.unusedVariables false
set_option linter.unusedSimpArgs false
namespace Go.Proofs.Ytkgcjafediimnaa
open Go.RowKit
/-- Bytes of the call's own, and a kind. -/
def RetP (w : World) (l : List UInt8) (c : Int) : Ending → World → Prop := fun e w' =>
  ∃ (ao : Option Addr) (n cap : Nat), l.length = n ∧ e = .returned (.tuple #[.slice ao n cap, .int .i64 c]) ∧ OwnB w w' (.slice ao n cap) n l
def runB (r : Rn) : List UInt8 := intB r.n ++ numB r.k.toNat
def runsB (rs : List Rn) : List UInt8 := numB rs.length ++ rs.flatMap runB
theorem runsB_step (n : Nat) (rs : List Rn) (j : Nat) (h : j < rs.length) : (numB n ++ (rs.take (j + 1)).flatMap runB) = (numB n ++ (rs.take j).flatMap runB) ++ intB rs[j].n ++ numB rs[j].k.toNat := by
  rw [List.take_succ_eq_append_getElem h, List.flatMap_append, List.flatMap_cons, List.flatMap_nil, List.append_nil, runB]; simp only [List.append_assoc]
theorem intB_length (n : Int) : 1 ≤ (intB n).length ∧ (intB n).length ≤ 9 := numB_length _
def putR (l : List Int) : List UInt8 := if l.length ≤ 4096 then runsB (ofR l) else []
def putC (l : List Int) : Int := if l.length ≤ 4096 then 0 else 3
theorem ofR_n (l : List Int) (h : ∀ n ∈ l, -9223372036854775808 ≤ n ∧ n ≤ 9223372036854775807) : ∀ r ∈ ofR l, -9223372036854775808 ≤ r.n ∧ r.n ≤ 9223372036854775807 := by
  intro r hr
  have h1 := ofR_pos l r hr
  have h2 : r.n ∈ flatR (ofR l) := List.mem_flatMap.2 ⟨r, hr, by rw [List.mem_replicate]; exact ⟨by omega, rfl⟩⟩
  rw [flat_of] at h2
  exact h _ h2
theorem totR_mem : ∀ (rs : List Rn), (∀ r ∈ rs, 1 ≤ r.k) → ∀ r ∈ rs, r.k ≤ totR rs
  | [], _, r, hr => by cases hr
  | s :: t, h, r, hr => by
    have h1 := totR_ge t (fun x hx => h x (by simp [hx]))
    have h2 := h s (by simp)
    rcases List.mem_cons.1 hr with rfl | hr
    · simp [totR]; omega
    · have := totR_mem t (fun x hx => h x (by simp [hx])) r hr
      simp [totR]; omega
theorem ofR_k (l : List Int) : ∀ r ∈ ofR l, 1 ≤ r.k ∧ r.k ≤ l.length := fun r hr => ⟨ofR_pos l r hr, by rw [← totR_of]; exact totR_mem _ (ofR_pos l) r hr⟩
set_option maxHeartbeats 4000000 in
theorem put_any (ao : Option Addr) (m cap : Nat) (l : List Int) (w : World) (hc : Cs w ao (icells l)) (hm : l.length = m) (hl : m ≤ cap) (hcm : cap ≤ maxLen) (hm5 : m ≤ 5000) (hwf : ∀ n ∈ l, -9223372036854775808 ≤ n ∧ n ≤ 9223372036854775807) :
    Calls Try.prog 9 #[.slice ao m cap] w (RetP w (putR l) (putC l)) := by
  have HO := Lib.hid (fun w hc => of_any ao m cap l w hc hm hl hcm hm5)
  unfold maxLen at hcm
  by_cases h4 : m ≤ 4096
  · have hR : putR l = runsB (ofR l) := by unfold putR; rw [if_pos (by omega)]
    have hC : putC l = 0 := by unfold putC; rw [if_pos (by omega)]
    rw [hR, hC]; clear hR hC
    have hlen := ofR_length l
    have HN := Lib.hid (ofR_n l hwf)
    have HK := Lib.hid (ofR_k l)
    rw [hm] at hlen
    have HM := Lib.hid hm
    clear hm hwf
    generalize ofR l = rs at HO hlen HN HK
    go_enter Try.func9, Try.ntmps9
    go_wp2_with (first | (at_make; refine Stop.un ?_) | (at_builtin; refine Stop.un ?_) | (with_reducible refine Stop.conv 24 9 ?_) | (with_reducible refine Stop.conv 9 24 ?_))
    refine (HO.out _ hc).mono ?_
    rintro e w1 ⟨a1, n1, c1, hn1, rfl, o1⟩
    have hn1' : n1 ≤ m := by omega
    have HL := Lib.hid hn1
    have hcap := owns_le o1.1
    have hcap2 := owns_max o1.1
    unfold maxLen at hcap2
    have hcs := Own.cs o1
    have b1 := Own.below o1
    clear hn1 hlen o1 hc HO
    go_wp2_with (first | (at_make; refine Stop.un ?_) | (at_builtin; refine Stop.un ?_) | (with_reducible refine Stop.conv 24 9 ?_) | (with_reducible refine Stop.conv 9 24 ?_))
    refine (num_any none 0 0 [] (n1 : Int) _ (Cs.nil _ _) rfl (by decide) (by omega) (by omega)).mono ?_
    rintro e w2 ⟨a2, n2, c2, hn2, rfl, o2⟩
    rw [List.nil_append, Int.toNat_natCast] at hn2 o2
    have hle : n2 ≤ 9 := by rw [← hn2]; exact (numB_length n1).2
    replace hcs := hcs.mono (Own.below o2) (Nat.le_refl _)
    replace o2 := Own.up o2 b1
    clear hn2 b1
    go_wp2_with (first | (at_make; refine Stop.un ?_) | (at_builtin; refine Stop.un ?_) | (with_reducible refine Stop.conv 24 9 ?_) | (with_reducible refine Stop.conv 9 24 ?_))
    go_loopw [5, 7, 19] (fun v _ i wr => ∃ (j k : Nat) (ab : Option Addr) (cb : Nat), j ≤ n1 ∧ k ≤ 9 + 18 * j ∧ i = .int .i64 (j : Int) ∧ v = .slice ab k cb ∧ OwnB w wr (.slice ab k cb) k (numB n1 ++ (rs.take j).flatMap runB) ∧ Cs wr a1 (rcells rs)) (fun _ _ i _ => n1 - (intOf i).toNat)
    case atStart => exact ⟨0, n2, a2, c2, by omega, by omega, rfl, rfl, by rw [List.take_zero, List.flatMap_nil, List.append_nil]; exact o2, hcs⟩
    case round =>
      clear o2 hle hcs
      obtain ⟨j, k, ab, cb, hj, hk, rfl, rfl, hO, hcs⟩ := hrel
      by_cases hlt : j < n1
      · have hjl : j < rs.length := by have := HL.out; omega
        obtain ⟨b, o, rfl⟩ := hcs.addr (by rw [rcells_length]; omega)
        obtain ⟨x0, x1⟩ := hcs.rat hjl
        have hst := runsB_step n1 rs j hjl
        obtain ⟨hn0, hn1⟩ := HN.out rs[j] (List.getElem_mem _)
        obtain ⟨hk0, hk1⟩ := HK.out rs[j] (List.getElem_mem _)
        generalize rs[j] = x at x0 x1 hst hn0 hn1 hk0 hk1
        obtain ⟨n, c⟩ := x
        simp only at x0 x1 hst hn0 hn1 hk0 hk1
        have HST := Lib.hid hst
        have hk2 : c ≤ 4096 := by have := HM.out; omega
        have hkl := Own.length hO
        rw [bcells_length, Nat.mul_one] at hkl
        generalize numB n1 ++ (rs.take j).flatMap runB = acc at hO HST hkl
        have HKL := Lib.hid hkl
        clear hst hkl hjl hk1
        have O1 := hO.keep ((Below.refl wr.heap.size wr).alloc (Nat.le_refl _) (.cells #[.int .i64 n, .int .i64 c] 34))
        have zr := At.new wr #[.int .i64 n, .int .i64 c] 34
        have hcs1 := hcs.mono ((Below.refl wr.heap.size wr).alloc (Nat.le_refl _) (.cells #[.int .i64 n, .int .i64 c] 34)) (Nat.le_refl _)
        go_wp2_with (first | (at_make; refine Stop.un ?_) | (at_builtin; refine Stop.un ?_) | (with_reducible refine Stop.conv 24 9 ?_) | (with_reducible refine Stop.conv 9 24 ?_))
        clear hO hcs x0 x1
        refine mix_startE 9 rfl (by kernel_rfl) ?_
        intro xq hxq
        replace O1 := Own.keep O1 hxq
        replace zr := At.mono zr hxq
        replace hcs1 := Cs.mono hcs1 hxq (Nat.le_refl _)
        clear hxq
        refine mix_quiet Keeps.ext 0 rfl (by kernel_rfl) rfl ?_
        intro ι U hne hU
        go_big_quiet_op
        clear hU hne U ι
        show wpAnyM _ _ _ _ _ _ _ _ _
        refine mix_quiet Keeps.ext 1 rfl (by kernel_rfl) rfl ?_
        intro ι U hne hU
        go_big_quiet_op
        clear hU hne U ι
        show wpAnyM _ _ _ _ _ _ _ _ _
        refine mix_quiet Keeps.ext 2 rfl (by kernel_rfl) rfl ?_
        intro ι U hne hU
        have hcw0 := fun ii => (At.mono zr (hU ii)).cell 0 rfl
        have hcw1 := fun ii => (At.mono zr (hU ii)).cell 1 rfl
        go_big_quiet_op
        clear hU hne hcw0 hcw1 U ι
        show wpAnyM _ _ _ _ _ _ _ _ _
        refine mix_quiet Keeps.ext 4 rfl (by kernel_rfl) rfl ?_
        intro ι U hne hU
        go_big_quiet_op
        clear hU hne U ι
        show wpAnyM _ _ _ _ _ _ _ _ _
        refine mix_quiet Keeps.ext 5 rfl (by kernel_rfl) rfl ?_
        intro ι U hne hU
        have hcw0 := fun ii => (At.mono zr (hU ii)).cell 0 rfl
        have hcw1 := fun ii => (At.mono zr (hU ii)).cell 1 rfl
        go_big_quiet_op
        clear hU hne hcw0 hcw1 U ι
        show wpAnyM _ _ _ _ _ _ _ _ _
        refine mix_quiet Keeps.ext 6 rfl (by kernel_rfl) rfl ?_
        intro ι U hne hU
        go_big_quiet_op
        clear hU hne U ι
        show wpAnyM _ _ _ _ _ _ _ _ _
        refine mix_any 3 rfl (by kernel_rfl) rfl ?_
        go_wp2_with (first | (at_make; refine Stop.un ?_) | (at_builtin; refine Stop.un ?_) | (with_reducible refine Stop.conv 24 9 ?_) | (with_reducible refine Stop.conv 9 24 ?_))
        refine (int_any ab k cb acc n _ (Own.cs O1) HKL.out (by omega) hn0 hn1).mono ?_
        rintro e w3 ⟨a3, k3, c3, h3, rfl, o3⟩
        have b3 := Own.below o3
        replace o3 := Own.up o3 (Own.below O1)
        replace zr := zr.mono b3
        replace hcs1 := hcs1.mono b3 (Nat.le_refl _)
        have H3 := Lib.hid h3
        have hk3 : k3 ≤ k + 9 := by rw [← h3, List.length_append, HKL.out]; have := (intB_length n).2; omega
        clear h3 O1
        go_wp2_with (first | (at_make; refine Stop.un ?_) | (at_builtin; refine Stop.un ?_) | (with_reducible refine Stop.conv 24 9 ?_) | (with_reducible refine Stop.conv 9 24 ?_))
        refine MixPost.mk b3 ?_
        clear b3
        refine mix_any 7 rfl (by kernel_rfl) rfl ?_
        go_wp2_with (first | (at_make; refine Stop.un ?_) | (at_builtin; refine Stop.un ?_) | (with_reducible refine Stop.conv 24 9 ?_) | (with_reducible refine Stop.conv 9 24 ?_))
        refine (num_any a3 k3 c3 (acc ++ intB n) c _ (Own.cs o3) H3.out (by omega) (by omega) (by omega)).mono ?_
        rintro e w4 ⟨a4, k4, c4, h4', rfl, o4⟩
        have b4 := Own.below o4
        replace o4 := Own.up o4 (Own.below o3)
        replace hcs1 := hcs1.mono b4 (Nat.le_refl _)
        clear h4' o3 zr
        go_wp2_with (first | (at_make; refine Stop.un ?_) | (at_builtin; refine Stop.un ?_) | (with_reducible refine Stop.conv 24 9 ?_) | (with_reducible refine Stop.conv 9 24 ?_))
        refine MixPost.mk b4 ?_
        clear b4
        refine mix_quiet Keeps.ext 8 rfl (by kernel_rfl) rfl ?_
        intro ι U hne hU
        go_big_quiet_op
        clear hU hne U ι
        show wpAnyM _ _ _ _ _ _ _ _ _
        refine mix_end (by kernel_rfl) ?_
        have hcs := hcs1
        have hbb := Below.refl w4.heap.size w4
        replace hcs := hcs.mono hbb (Nat.le_refl _)
        have h6 := OwnB.length o4
        have h6' : k4 ≤ k + 18 := by
          have e1 := (intB_length n).2
          have e2 := (numB_length c.toNat).2
          rw [← h6, List.length_append, List.length_append, HKL.out]; omega
        rw [← HST.out] at o4
        clear h6
        go_wp2_with (first | (at_make; refine Stop.un ?_) | (at_builtin; refine Stop.un ?_) | (with_reducible refine Stop.conv 24 9 ?_) | (with_reducible refine Stop.conv 9 24 ?_))
        go_roundw
        case rel => exact ⟨j + 1, k4, a4, c4, by omega, by omega, by go_num, rfl, o4, hcs⟩
        case measure => simp [intOf]; omega
      · have hge : j = n1 := by omega
        subst hge
        clear hlt hj
        rw [List.take_of_length_le (by have := HL.out; omega)] at hO
        go_wp2_with (first | (at_make; refine Stop.un ?_) | (at_builtin; refine Stop.un ?_) | (with_reducible refine Stop.conv 24 9 ?_) | (with_reducible refine Stop.conv 9 24 ?_))
        go_ret2
        refine ⟨_, _, _, ?_, rfl, ?_⟩
        rotate_left
        · rw [runsB, HL.out]; exact hO
        · rw [runsB, HL.out]; exact OwnB.length hO
  · have hR : putR l = [] := by unfold putR; rw [if_neg (by omega)]
    have hC : putC l = 3 := by unfold putC; rw [if_neg (by omega)]
    rw [hR, hC]; clear hR hC hm HO
    go_enter Try.func9, Try.ntmps9
    go_wp2_with (first | (at_make; refine Stop.un ?_) | (at_builtin; refine Stop.un ?_) | (with_reducible refine Stop.conv 24 9 ?_) | (with_reducible refine Stop.conv 9 24 ?_))
    go_ret2
    exact ⟨none, 0, 0, rfl, rfl, Own.nil _ _ (Below.refl _ _)⟩
set_option maxHeartbeats 4000000 in
theorem rput_any (ao : Option Addr) (m cap : Nat) (l : List Int) (w : World) (hc : Cs w ao (icells l)) (hm : l.length = m) (hl : m ≤ cap) (hcm : cap ≤ maxLen) (hm5 : m ≤ 5000) (hwf : ∀ n ∈ l, -9223372036854775808 ≤ n ∧ n ≤ 9223372036854775807) :
    Calls Try.prog 10 #[.slice ao m cap] w (RetP w (putR l) (putC l)) := by
  have HO := Lib.hid (fun w hc => rof_any ao m cap l w hc hm hl hcm hm5)
  unfold maxLen at hcm
  by_cases h4 : m ≤ 4096
  · have hR : putR l = runsB (ofR l) := by unfold putR; rw [if_pos (by omega)]
    have hC : putC l = 0 := by unfold putC; rw [if_pos (by omega)]
    rw [hR, hC]; clear hR hC
    have hlen := ofR_length l
    have HN := Lib.hid (ofR_n l hwf)
    have HK := Lib.hid (ofR_k l)
    rw [hm] at hlen
    have HM := Lib.hid hm
    clear hm hwf
    generalize ofR l = rs at HO hlen HN HK
    go_enter Try.func10, Try.ntmps10
    go_wp2_with (first | (at_make; refine Stop.un ?_) | (at_builtin; refine Stop.un ?_) | (with_reducible refine Stop.conv 24 9 ?_) | (with_reducible refine Stop.conv 9 24 ?_))
    refine (HO.out _ hc).mono ?_
    rintro e w1 ⟨a1, n1, c1, hn1, rfl, o1⟩
    have hn1' : n1 ≤ m := by omega
    have HL := Lib.hid hn1
    have hcap := owns_le o1.1
    have hcap2 := owns_max o1.1
    unfold maxLen at hcap2
    have hcs := Own.cs o1
    have b1 := Own.below o1
    clear hn1 hlen o1 hc HO
    go_wp2_with (first | (at_make; refine Stop.un ?_) | (at_builtin; refine Stop.un ?_) | (with_reducible refine Stop.conv 24 9 ?_) | (with_reducible refine Stop.conv 9 24 ?_))
    refine (rnum_any none 0 0 [] (n1 : Int) _ (Cs.nil _ _) rfl (by decide) (by omega) (by omega)).mono ?_
    rintro e w2 ⟨a2, n2, c2, hn2, rfl, o2⟩
    rw [List.nil_append, Int.toNat_natCast] at hn2 o2
    have hle : n2 ≤ 9 := by rw [← hn2]; exact (numB_length n1).2
    replace hcs := hcs.mono (Own.below o2) (Nat.le_refl _)
    replace o2 := Own.up o2 b1
    clear hn2 b1
    go_wp2_with (first | (at_make; refine Stop.un ?_) | (at_builtin; refine Stop.un ?_) | (with_reducible refine Stop.conv 24 9 ?_) | (with_reducible refine Stop.conv 9 24 ?_))
    go_loopw [5, 6] (fun v i wr => ∃ (j k : Nat) (ab : Option Addr) (cb : Nat), j ≤ n1 ∧ k ≤ 9 + 18 * j ∧ i = .int .i64 (j : Int) ∧ v = .slice ab k cb ∧ OwnB w wr (.slice ab k cb) k (numB n1 ++ (rs.take j).flatMap runB) ∧ Cs wr a1 (rcells rs)) (fun _ i _ => n1 - (intOf i).toNat)
    case atStart => exact ⟨0, n2, a2, c2, by omega, by omega, rfl, rfl, by rw [List.take_zero, List.flatMap_nil, List.append_nil]; exact o2, hcs⟩
    case round =>
      clear o2 hle hcs
      obtain ⟨j, k, ab, cb, hj, hk, rfl, rfl, hO, hcs⟩ := hrel
      by_cases hlt : j < n1
      · have hjl : j < rs.length := by have := HL.out; omega
        obtain ⟨b, o, rfl⟩ := hcs.addr (by rw [rcells_length]; omega)
        obtain ⟨x0, x1⟩ := hcs.rat hjl
        have hst := runsB_step n1 rs j hjl
        obtain ⟨hn0, hn1⟩ := HN.out rs[j] (List.getElem_mem _)
        obtain ⟨hk0, hk1⟩ := HK.out rs[j] (List.getElem_mem _)
        generalize rs[j] = x at x0 x1 hst hn0 hn1 hk0 hk1
        obtain ⟨n, c⟩ := x
        simp only at x0 x1 hst hn0 hn1 hk0 hk1
        have HST := Lib.hid hst
        have hk2 : c ≤ 4096 := by have := HM.out; omega
        have hkl := Own.length hO
        rw [bcells_length, Nat.mul_one] at hkl
        generalize numB n1 ++ (rs.take j).flatMap runB = acc at hO HST hkl
        have HKL := Lib.hid hkl
        clear hst hkl hjl hk1
        go_wp2_with (first | (at_make; refine Stop.un ?_) | (at_builtin; refine Stop.un ?_) | (with_reducible refine Stop.conv 24 9 ?_) | (with_reducible refine Stop.conv 9 24 ?_))
        refine (rint_any ab k cb acc n _ (Own.cs hO) HKL.out (by omega) hn0 hn1).mono ?_
        rintro e w3 ⟨a3, k3, c3, h3, rfl, o3⟩
        replace hcs := hcs.mono (Own.below o3) (Nat.le_refl _)
        have x1' := Ext.cell (Own.below o3) x1
        replace o3 := Own.up o3 (Own.below hO)
        have H3 := Lib.hid h3
        have hk3 : k3 ≤ k + 9 := by rw [← h3, List.length_append, HKL.out]; have := (intB_length n).2; omega
        clear h3 hO x0 x1
        go_wp2_with (first | (at_make; refine Stop.un ?_) | (at_builtin; refine Stop.un ?_) | (with_reducible refine Stop.conv 24 9 ?_) | (with_reducible refine Stop.conv 9 24 ?_))
        refine (rnum_any a3 k3 c3 (acc ++ intB n) c _ (Own.cs o3) H3.out (by omega) (by omega) (by omega)).mono ?_
        rintro e w4 ⟨a4, k4, c4, h4', rfl, o4⟩
        have hbb := Own.below o4
        replace o4 := Own.up o4 (Own.below o3)
        clear h4' o3 x1'
        replace hcs := hcs.mono hbb (Nat.le_refl _)
        have h6 := OwnB.length o4
        have h6' : k4 ≤ k + 18 := by
          have e1 := (intB_length n).2
          have e2 := (numB_length c.toNat).2
          rw [← h6, List.length_append, List.length_append, HKL.out]; omega
        rw [← HST.out] at o4
        clear h6
        go_wp2_with (first | (at_make; refine Stop.un ?_) | (at_builtin; refine Stop.un ?_) | (with_reducible refine Stop.conv 24 9 ?_) | (with_reducible refine Stop.conv 9 24 ?_))
        go_roundw
        case rel => exact ⟨j + 1, k4, a4, c4, by omega, by omega, by go_num, rfl, o4, hcs⟩
        case measure => simp [intOf]; omega
      · have hge : j = n1 := by omega
        subst hge
        clear hlt hj
        rw [List.take_of_length_le (by have := HL.out; omega)] at hO
        go_wp2_with (first | (at_make; refine Stop.un ?_) | (at_builtin; refine Stop.un ?_) | (with_reducible refine Stop.conv 24 9 ?_) | (with_reducible refine Stop.conv 9 24 ?_))
        go_ret2
        refine ⟨_, _, _, ?_, rfl, ?_⟩
        rotate_left
        · rw [runsB, HL.out]; exact hO
        · rw [runsB, HL.out]; exact OwnB.length hO
  · have hR : putR l = [] := by unfold putR; rw [if_neg (by omega)]
    have hC : putC l = 3 := by unfold putC; rw [if_neg (by omega)]
    rw [hR, hC]; clear hR hC hm HO
    go_enter Try.func10, Try.ntmps10
    go_wp2_with (first | (at_make; refine Stop.un ?_) | (at_builtin; refine Stop.un ?_) | (with_reducible refine Stop.conv 24 9 ?_) | (with_reducible refine Stop.conv 9 24 ?_))
    go_ret2
    exact ⟨none, 0, 0, rfl, rfl, Own.nil _ _ (Below.refl _ _)⟩
end Go.Proofs.Ytkgcjafediimnaa
