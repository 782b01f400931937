/- The reference's reader. -/
import Derived.Test.YtdpmaocbfmgmlaaRdr
import Derived.Test.YtdpmaocbfmgmlaaRef
set_option linter.unusedVariables false
set_option linter.unusedSimpArgs false
namespace Go.Proofs.Ytdpmaocbfmgmlaa
open Go.RowKit
set_option maxHeartbeats 400000 in
set_option maxRecDepth 100000 in
theorem rfail_any (e0 : TypeId) (B T : Nat) (g : Nat) (hB : B ≤ g ∧ g < T) (cs : Array Value) (w : World) (hh : w.heap[g]? = some (.cells cs e0 (0, 0))) (hs : cs.size = 2) :
    Calls Try.prog 79 #[.pointer (some ⟨g, 0, none⟩)] w (fun e w' => e = .returned (.int .u64 0) ∧ Rdr e0 B T w' g [] true ∧ w.grownBy w' (some g)) := by
  obtain ⟨c0, c1, rfl⟩ : ∃ c0 c1, cs = #[c0, c1] := by
    obtain ⟨l⟩ := cs
    match l, hs with
    | [a, b], _ => exact ⟨a, b, rfl⟩
  have h0 := cell_of hh 0
  have h1 := cell_of hh 1
  have hf0 := free_of hh 0
  have hf1 := free_of hh 1
  have hb1 := set_of hh 1 (.bool true)
  have hb2 := set_of hb1 0 (.slice none 0 0)
  have HB := Lib.hid hb2
  clear hh hb1 hb2
  go_enter Try.func79, Try.ntmps79
  go_wp2
  go_ret
  exact ⟨rfl, ⟨none, 0, 0, HB.out, rfl, Nat.le_refl _, by omega, Cs.nil _ _, hB, fun _ h => by cases h⟩, grown_trans (grown_set _ _ _ _) (grown_set _ _ _ _)⟩

set_option maxHeartbeats 400000 in
theorem zag_any (n : Nat) (w : World) (hn : n < 18446744073709551616) :
    Calls Try.prog 65 #[.int .u64 n] w (fun e w' => e = .returned (.int .i64 (zag n)) ∧ w = w') := by
  have HN := Lib.hid hn
  have h9 : (n : Int) / 2 ≤ 9223372036854775807 := by omega
  clear hn
  by_cases h : n % 2 = 0
  · have h2 : ((n : Int) % 2 == 0) = true := by simp; omega
    have hz : zag n = ((n : Int) / 2) := by unfold zag; rw [if_pos h]; omega
    rw [hz]
    clear h hz
    go_enter Try.func65, Try.ntmps65
    go_wp2
    go_ret
    exact ⟨rfl, rfl⟩
  · have h2 : ((n : Int) % 2 == 0) = false := by simp; omega
    have hz : zag n = -((n : Int) / 2) - 1 := by unfold zag; rw [if_neg h]; omega
    rw [hz]
    clear h hz
    go_enter Try.func65, Try.ntmps65
    go_wp2
    go_ret
    exact ⟨rfl, rfl⟩

set_option maxHeartbeats 400000 in
set_option maxRecDepth 100000 in
theorem rrnum_any (e0 : TypeId) (B T : Nat) (g : Nat) (l : List UInt8) (bad : Bool) (w : World) (h : Rdr e0 B T w g l bad) :
    Calls Try.prog 66 #[.pointer (some ⟨g, 0, none⟩)] w (fun e w' => e = .returned (.int .u64 (rdN l)) ∧ Rdr e0 B T w' g (rdRest l) (bad || rdBad l) ∧ w.grownBy w' (some g)) := by
  obtain ⟨ao, n, cap, hh, hl, hn, hcap, hc, HB, hne⟩ := h
  have h0 := cell_of hh 0
  have hf0 := free_of hh 0
  have HH := Lib.hid hh
  clear hh
  simp at h0
  match l, hl, hc with
  | [], hl, hc =>
    obtain rfl : n = 0 := by simpa using hl.symm
    obtain ⟨e1, e2, e3⟩ := rd_of_none (l := []) rfl
    rw [e1, e2, e3]
    go_enter Try.func66, Try.ntmps66
    go_wp2_with (first | (at_make; refine Stop.un ?_) | (at_builtin; refine Stop.un ?_))
    refine (rfail_any e0 B T g HB _ _ HH.out rfl).mono ?_
    rintro e w1 ⟨rfl, hr, hg⟩
    go_wp2_with (first | (at_make; refine Stop.un ?_) | (at_builtin; refine Stop.un ?_))
    go_ret
    exact ⟨rfl, by simpa using hr, hg⟩
  | c :: r, hl, hc =>
    simp at hl
    have hn1 : 1 ≤ n := by omega
    have Hl := Lib.hid hl
    clear hl
    obtain ⟨b, o, rfl⟩ := hc.addr (by simp [bcells])
    have hb := hne _ rfl
    have Hb := Lib.hid hb
    have Hcap := Lib.hid hcap
    clear hne hb
    have hcell := hc.at (j := 0) (u := .int .u8 (c.toNat : Int)) (by simp [bcells])
    rw [Nat.add_zero] at hcell
    have hgl : g < w.heap.size := heap_lt HH.out
    have hst := strOf_toList'
    by_cases hlt : c.toNat < 248
    · have hlt' : (c.toNat : Int) < 248 := by omega
      obtain ⟨e1, e2, e3⟩ := rd_of_some (l := c :: r) (n := c.toNat) (r := r) (by simp [tnum, hlt])
      rw [e1, e2, e3]
      have heq : (numB c.toNat == [c]) = true := by rw [numB_byte c hlt]; simp
      clear e1 e2 e3 hlt
      have hC : (c.toNat : Int) ≤ 255 := by have := c.toNat_lt; omega
      have ht := hc.take 1
      rw [show (bcells (c :: r)).take 1 = bcells [c] from by simp [bcells]] at ht
      have hd := hc.drop 1
      rw [show (bcells (c :: r)).drop 1 = bcells r from by simp [bcells]] at hd
      have hY : Hid ([c].length = 1) := Lib.hid rfl
      generalize c.toNat = C at hcell hlt' hC heq
      generalize [c] = Y at ht hY heq
      clear hc
      go_enter Try.func66, Try.ntmps66
      go_wp2_with (first | (at_make; refine Stop.un ?_) | (at_builtin; refine Stop.un ?_) | (with_reducible refine Stop.conv 40 9 ?_) | (with_reducible refine Stop.conv 9 40 ?_))
      refine wp_loop_rounds 1 ?_
      rw [rounds_succ]
      go_wp2_with (first | (at_make; refine Stop.un ?_) | (at_builtin; refine Stop.un ?_) | (with_reducible refine Stop.conv 40 9 ?_) | (with_reducible refine Stop.conv 9 40 ?_))
      refine mix_startE 12 rfl (by kernel_rfl) ?_
      intro x hx
      have htx := ht.mono hx (Nat.le_refl _)
      refine mix_quiet Keeps.ext 3 rfl (by kernel_rfl) rfl ?_
      intro ι U hne hU
      go_big_quiet_op
      clear hU hne U ι
      show wpAnyM _ _ _ _ _ _ _ _ _
      refine mix_quiet Keeps.ext 4 rfl (by kernel_rfl) rfl ?_
      intro ι U hne hU
      go_big_quiet_op
      clear hU hne U ι
      show wpAnyM _ _ _ _ _ _ _ _ _
      refine mix_quiet Keeps.ext 5 rfl (by kernel_rfl) rfl ?_
      intro ι U hne hU
      go_big_quiet_op
      clear hU hne U ι
      show wpAnyM _ _ _ _ _ _ _ _ _
      refine mix_quiet Keeps.ext 6 rfl (by kernel_rfl) rfl ?_
      intro ι U hne hU
      have hcv := fun k => ((hx.trans (hU k)).cell h0)
      go_big_quiet_op
      clear hU hne hcv U ι
      show wpAnyM _ _ _ _ _ _ _ _ _
      refine mix_quiet Keeps.ext 7 rfl (by kernel_rfl) rfl ?_
      intro ι U hne hU
      go_big_quiet_op
      clear hU hne U ι
      show wpAnyM _ _ _ _ _ _ _ _ _
      refine mix_quiet Keeps.ext 8 rfl (by kernel_rfl) rfl ?_
      intro ι U hne hU
      go_big_quiet_op
      clear hU hne U ι
      show wpAnyM _ _ _ _ _ _ _ _ _
      refine mix_quiet Keeps.ext 9 rfl (by kernel_rfl) rfl ?_
      intro ι U hne hU
      go_big_quiet_op
      clear hU hne U ι
      show wpAnyM _ _ _ _ _ _ _ _ _
      refine mix_quiet Keeps.ext 10 rfl (by kernel_rfl) rfl ?_
      intro ι U hne hU
      have hcv := fun ii => run_conv_cs (P := Try.prog) (w := U ii) Try.underlying40 Try.underlying5 Try.underlying9 (cap := cap) hY.out (Cs.mono htx (hU ii) (Nat.le_refl _))
      go_big_quiet_op
      clear hU hne hcv U ι
      show wpAnyM _ _ _ _ _ _ _ _ _
      refine mix_quiet Keeps.ext 0 rfl (by kernel_rfl) rfl ?_
      intro ι U hne hU
      go_big_quiet_op
      clear hU hne U ι
      show wpAnyM _ _ _ _ _ _ _ _ _
      refine mix_any 1 rfl (by kernel_rfl) rfl ?_
      go_wp2_with (first | (at_make; refine Stop.un ?_) | (at_builtin; refine Stop.un ?_) | (with_reducible refine Stop.conv 40 9 ?_) | (with_reducible refine Stop.conv 9 40 ?_))
      refine (rnum_any none 0 0 [] (C : Int) _ (Cs.nil _ _) rfl (by omega) (by omega) (by omega)).mono ?_
      rintro e w1 ⟨ao1, n1, cap1, hn1, rfl, o1⟩
      rw [List.nil_append, Int.toNat_natCast] at hn1 o1
      have H1 := Lib.hid hn1; clear hn1
      go_wp2_with (first | (at_make; refine Stop.un ?_) | (at_builtin; refine Stop.un ?_) | (with_reducible refine Stop.conv 40 9 ?_) | (with_reducible refine Stop.conv 9 40 ?_))
      refine MixPost.mk (Own.below o1) ?_
      refine mix_quiet Keeps.ext 2 rfl (by kernel_rfl) rfl ?_
      intro ι U hne hU
      have hcv := fun ii => run_conv_cs (P := Try.prog) (w := U ii) Try.underlying40 Try.underlying5 Try.underlying9 (cap := cap1) H1.out (Cs.mono (Own.cs o1) (hU ii) (Nat.le_refl _))
      go_big_quiet_op
      clear hU hne hcv U ι
      show wpAnyM _ _ _ _ _ _ _ _ _
      refine mix_quiet Keeps.ext 11 rfl (by kernel_rfl) rfl ?_
      intro ι U hne hU
      go_big_quiet_op
      clear hU hne U ι
      show wpAnyM _ _ _ _ _ _ _ _ _
      refine mix_end (by kernel_rfl) ?_
      have b1 := hx.trans (Own.below o1)
      have h0' := b1.cell h0
      have HH' := (b1.block g hgl).trans HH.out
      have hf0' := free_of HH' 0
      have hd' := hd.mono b1 (Nat.le_refl _)
      have HH2 := Lib.hid HH'
      clear HH' o1 H1 htx hx heq
      go_wp2_with (first | (at_make; refine Stop.un ?_) | (at_builtin; refine Stop.un ?_) | (with_reducible refine Stop.conv 40 9 ?_) | (with_reducible refine Stop.conv 9 40 ?_))
      all_goals go_ret
      · have hr0 : r = [] := by have := Hl.out; exact List.eq_nil_of_length_eq_zero (by omega)
        subst hr0
        exact ⟨rfl, by simpa using rdr_set HH2.out (r := []) (by have := Hl.out; simp at this ⊢; omega) (by omega) (by omega) (Cs.nil _ _) HB (fun a h => by cases h; exact Hb.out), grown_trans (grown_below b1) (grown_set _ _ _ _)⟩
      · exact ⟨rfl, by simpa using rdr_set HH2.out (by have := Hl.out; omega) (by omega) (by have := Hcap.out; omega) hd' HB (fun a h => by cases h; exact Hb.out), grown_trans (grown_below b1) (grown_set _ _ _ _)⟩
    · obtain ⟨k, hk⟩ : ∃ k, c.toNat = k + 247 := ⟨c.toNat - 247, by omega⟩
      have hk1 : 1 ≤ k := by omega
      have hk8 : k ≤ 8 := by have := c.toNat_lt; omega
      have HK := Lib.hid hk
      rw [hk] at hcell
      have hkk : (↑k + 247 - 247 : Int) = ↑k := by omega
      by_cases hlen : r.length < k
      · obtain ⟨e1, e2, e3⟩ := rd_of_none (l := c :: r) (by simp [tnum, hk, hlen]; omega)
        rw [e1, e2, e3]
        clear e1 e2 e3 hlt hk
        have hle : (n : Int) < 1 + (k : Int) := by have := Hl.out; omega
        clear hlen
        go_enter Try.func66, Try.ntmps66
        go_wp2_with (first | (at_make; refine Stop.un ?_) | (at_builtin; refine Stop.un ?_) | (with_reducible refine Stop.conv 40 9 ?_) | (with_reducible refine Stop.conv 9 40 ?_))
        refine (rfail_any e0 B T g HB _ _ HH.out rfl).mono ?_
        rintro e w1 ⟨rfl, hr, hg⟩
        go_wp2_with (first | (at_make; refine Stop.un ?_) | (at_builtin; refine Stop.un ?_) | (with_reducible refine Stop.conv 40 9 ?_) | (with_reducible refine Stop.conv 9 40 ?_))
        go_ret
        exact ⟨rfl, by simpa using hr, hg⟩
      · have hlen' : k + 1 ≤ n := by have := Hl.out; omega
        have hlen2 : k ≤ r.length := by omega
        have HLk := Lib.hid hlen2
        have hN64 : val (r.take k) < 18446744073709551616 := by
          have := val_lt (r.take k)
          have h2 : (r.take k).length ≤ 8 := by rw [List.length_take]; omega
          have h3 : 256 ^ (r.take k).length ≤ 256 ^ 8 := Nat.pow_le_pow_right (by omega) h2
          omega
        have HN64 := Lib.hid hN64
        have hiff := numB_val c (r.take k) (by rw [List.length_take]; omega) (by rw [List.length_take]; omega)
        rw [List.length_take, Nat.min_eq_left hlen2] at hiff
        have HI := Lib.hid hiff
        have ht := hc.take (k + 1)
        rw [show (bcells (c :: r)).take (k + 1) = bcells (c :: r.take k) from by simp [bcells]] at ht
        have hd := hc.drop (1 + k)
        rw [show (bcells (c :: r)).drop (1 + k) = bcells (r.drop k) from by simp [bcells, Nat.add_comm 1 k]] at hd
        have hY : Hid ((c :: r.take k).length = 1 + k) := Lib.hid (by rw [List.length_cons, List.length_take]; omega)
        clear hlt hk hlen hlen2 hN64 hiff
        go_enter Try.func66, Try.ntmps66
        go_wp2_with (first | (at_make; refine Stop.un ?_) | (at_builtin; refine Stop.un ?_) | (with_reducible refine Stop.conv 40 9 ?_) | (with_reducible refine Stop.conv 9 40 ?_))
        go_loop [4, 5] (fun x c => ∃ j N : Nat, j ≤ k ∧ c = .int .i64 ((j : Int) + 1) ∧ x = .int .u64 (N : Int) ∧ Hid (N = val (r.take j))) (fun _ c => k + 1 - (intOf c).toNat)
        case atStart => exact ⟨0, 0, by omega, rfl, rfl, Lib.hid rfl⟩
        case round =>
          obtain ⟨j, N, hj, rfl, rfl, hN⟩ := hrel
          by_cases hjk : j < k
          · have hN2 : N ≤ 72057594037927935 := by
              have := val_lt (r.take j)
              rw [hN.out]
              have h2 : (r.take j).length ≤ 7 := by rw [List.length_take]; omega
              have h3 : 256 ^ (r.take j).length ≤ 256 ^ 7 := Nat.pow_le_pow_right (by omega) h2
              omega
            have hjr : j < r.length := by have := HLk.out; omega
            have hcj := hc.at (j := j + 1) (u := .int .u8 (r[j].toNat : Int)) (by simp [bcells, hjr])
            have hr8 : r[j].toNat < 256 := r[j].toNat_lt
            have HR := Lib.hid (val_snoc (r.take j) r[j])
            have HT := Lib.hid (List.take_succ_eq_append_getElem hjr)
            generalize r[j].toNat = z at hcj hr8 HR
            have Hjr := Lib.hid hjr
            go_wp2_with (first | (at_make; refine Stop.un ?_) | (at_builtin; refine Stop.un ?_) | (with_reducible refine Stop.conv 40 9 ?_) | (with_reducible refine Stop.conv 9 40 ?_))
            go_round
            case rel => exact ⟨j + 1, N * 256 + z, by omega, by go_num, by go_num, Lib.hid (by rw [HT.out, HR.out, ← hN.out])⟩
            case measure => simp [intOf]; omega
          · obtain rfl : j = k := by omega
            clear hjk hc
            have hNN := HN64.out
            rw [← hN.out] at hNN
            have HNN := Lib.hid hNN
            clear hNN
            by_cases hok : numB N = c :: r.take j
            · have heq : (numB N == c :: r.take j) = true := by rw [hok]; simp
              have E := Lib.hid (rd_of_some (l := c :: r) (n := N) (r := r.drop j) (by
                have e := HK.out
                have e2 := hN.out
                have := Hl.out
                have hnot := HI.out.1 (by rw [← e2]; exact hok)
                simp only [tnum, e, show j + 247 - 247 = j by omega, if_neg (show ¬ j + 247 < 248 by omega), if_neg (show ¬ r.length < j by omega)]
                rw [if_neg hnot, ← e2]))
              clear hok
              generalize c :: r.take j = Y at ht hY heq
              have hneg : (N : Int) ≤ 18446744073709551615 := by have := HNN.out; omega
              go_wp2_with (first | (at_make; refine Stop.un ?_) | (at_builtin; refine Stop.un ?_) | (with_reducible refine Stop.conv 40 9 ?_) | (with_reducible refine Stop.conv 9 40 ?_))
              refine mix_startE 12 rfl (by kernel_rfl) ?_
              intro x hx
              have htx := ht.mono hx (Nat.le_refl _)
              refine mix_quiet Keeps.ext 3 rfl (by kernel_rfl) rfl ?_
              intro ι U hne hU
              go_big_quiet_op
              clear hU hne U ι
              show wpAnyM _ _ _ _ _ _ _ _ _
              refine mix_quiet Keeps.ext 4 rfl (by kernel_rfl) rfl ?_
              intro ι U hne hU
              go_big_quiet_op
              clear hU hne U ι
              show wpAnyM _ _ _ _ _ _ _ _ _
              refine mix_quiet Keeps.ext 5 rfl (by kernel_rfl) rfl ?_
              intro ι U hne hU
              go_big_quiet_op
              clear hU hne U ι
              show wpAnyM _ _ _ _ _ _ _ _ _
              refine mix_quiet Keeps.ext 6 rfl (by kernel_rfl) rfl ?_
              intro ι U hne hU
              have hcv := fun k => ((hx.trans (hU k)).cell h0)
              go_big_quiet_op
              clear hU hne hcv U ι
              show wpAnyM _ _ _ _ _ _ _ _ _
              refine mix_quiet Keeps.ext 7 rfl (by kernel_rfl) rfl ?_
              intro ι U hne hU
              go_big_quiet_op
              clear hU hne U ι
              show wpAnyM _ _ _ _ _ _ _ _ _
              refine mix_quiet Keeps.ext 8 rfl (by kernel_rfl) rfl ?_
              intro ι U hne hU
              go_big_quiet_op
              clear hU hne U ι
              show wpAnyM _ _ _ _ _ _ _ _ _
              refine mix_quiet Keeps.ext 9 rfl (by kernel_rfl) rfl ?_
              intro ι U hne hU
              go_big_quiet_op
              clear hU hne U ι
              show wpAnyM _ _ _ _ _ _ _ _ _
              refine mix_quiet Keeps.ext 10 rfl (by kernel_rfl) rfl ?_
              intro ι U hne hU
              have hcv := fun ii => run_conv_cs (P := Try.prog) (w := U ii) Try.underlying40 Try.underlying5 Try.underlying9 (cap := cap) hY.out (Cs.mono htx (hU ii) (Nat.le_refl _))
              go_big_quiet_op
              clear hU hne hcv U ι
              show wpAnyM _ _ _ _ _ _ _ _ _
              refine mix_quiet Keeps.ext 0 rfl (by kernel_rfl) rfl ?_
              intro ι U hne hU
              go_big_quiet_op
              clear hU hne U ι
              show wpAnyM _ _ _ _ _ _ _ _ _
              refine mix_any 1 rfl (by kernel_rfl) rfl ?_
              go_wp2_with (first | (at_make; refine Stop.un ?_) | (at_builtin; refine Stop.un ?_) | (with_reducible refine Stop.conv 40 9 ?_) | (with_reducible refine Stop.conv 9 40 ?_))
              refine (rnum_any none 0 0 [] (N : Int) _ (Cs.nil _ _) rfl (by omega) (by omega) hneg).mono ?_
              rintro e w1 ⟨ao1, n1, cap1, hn1, rfl, o1⟩
              rw [List.nil_append, Int.toNat_natCast] at hn1 o1
              have H1 := Lib.hid hn1; clear hn1
              go_wp2_with (first | (at_make; refine Stop.un ?_) | (at_builtin; refine Stop.un ?_) | (with_reducible refine Stop.conv 40 9 ?_) | (with_reducible refine Stop.conv 9 40 ?_))
              refine MixPost.mk (Own.below o1) ?_
              refine mix_quiet Keeps.ext 2 rfl (by kernel_rfl) rfl ?_
              intro ι U hne hU
              have hcv := fun ii => run_conv_cs (P := Try.prog) (w := U ii) Try.underlying40 Try.underlying5 Try.underlying9 (cap := cap1) H1.out (Cs.mono (Own.cs o1) (hU ii) (Nat.le_refl _))
              go_big_quiet_op
              clear hU hne hcv U ι
              show wpAnyM _ _ _ _ _ _ _ _ _
              refine mix_quiet Keeps.ext 11 rfl (by kernel_rfl) rfl ?_
              intro ι U hne hU
              go_big_quiet_op
              clear hU hne U ι
              show wpAnyM _ _ _ _ _ _ _ _ _
              refine mix_end (by kernel_rfl) ?_
              have b1 := hx.trans (Own.below o1)
              have h0' := b1.cell h0
              have HH' := (b1.block g hgl).trans HH.out
              have hf0' := free_of HH' 0
              have hd' := hd.mono b1 (Nat.le_refl _)
              have HH2 := Lib.hid HH'
              clear HH' o1 H1 htx hx heq
              go_wp2_with (first | (at_make; refine Stop.un ?_) | (at_builtin; refine Stop.un ?_) | (with_reducible refine Stop.conv 40 9 ?_) | (with_reducible refine Stop.conv 9 40 ?_))
              all_goals go_ret
              all_goals (obtain ⟨e1, e2, e3⟩ := E.out; rw [e1, e2, e3, Bool.or_false])
              · have hr0 : r.drop j = [] := List.drop_eq_nil_of_le (by have := Hl.out; omega)
                rw [hr0]
                exact ⟨rfl, rdr_set HH2.out (by have := Hl.out; simp; omega) (by omega) (by omega) (Cs.nil _ _) HB (fun a h => by cases h; exact Hb.out), grown_trans (grown_below b1) (grown_set _ _ _ _)⟩
              · exact ⟨rfl, rdr_set HH2.out (by have := Hl.out; rw [List.length_drop]; omega) (by omega) (by have := Hcap.out; omega) hd' HB (fun a h => by cases h; exact Hb.out), grown_trans (grown_below b1) (grown_set _ _ _ _)⟩
            · have heq : (numB N == c :: r.take j) = false := by simpa using hok
              have E := Lib.hid (rd_of_none (l := c :: r) (by
                have e := HK.out
                have e2 := hN.out
                have := Hl.out
                have hnot : val (r.take j) < 248 ∨ Lib.bitLen (val (r.take j)) ≤ 8 * (j - 1) := by
                  refine Decidable.byContradiction fun h => hok ?_
                  rw [e2]; exact HI.out.2 h
                simp only [tnum, e, show j + 247 - 247 = j by omega, if_neg (show ¬ j + 247 < 248 by omega), if_neg (show ¬ r.length < j by omega)]
                rw [if_pos hnot]))
              clear hok
              generalize c :: r.take j = Y at ht hY heq
              have hneg : (N : Int) ≤ 18446744073709551615 := by have := HNN.out; omega
              go_wp2_with (first | (at_make; refine Stop.un ?_) | (at_builtin; refine Stop.un ?_) | (with_reducible refine Stop.conv 40 9 ?_) | (with_reducible refine Stop.conv 9 40 ?_))
              refine mix_startE 12 rfl (by kernel_rfl) ?_
              intro x hx
              have htx := ht.mono hx (Nat.le_refl _)
              refine mix_quiet Keeps.ext 3 rfl (by kernel_rfl) rfl ?_
              intro ι U hne hU
              go_big_quiet_op
              clear hU hne U ι
              show wpAnyM _ _ _ _ _ _ _ _ _
              refine mix_quiet Keeps.ext 4 rfl (by kernel_rfl) rfl ?_
              intro ι U hne hU
              go_big_quiet_op
              clear hU hne U ι
              show wpAnyM _ _ _ _ _ _ _ _ _
              refine mix_quiet Keeps.ext 5 rfl (by kernel_rfl) rfl ?_
              intro ι U hne hU
              go_big_quiet_op
              clear hU hne U ι
              show wpAnyM _ _ _ _ _ _ _ _ _
              refine mix_quiet Keeps.ext 6 rfl (by kernel_rfl) rfl ?_
              intro ι U hne hU
              have hcv := fun k => ((hx.trans (hU k)).cell h0)
              go_big_quiet_op
              clear hU hne hcv U ι
              show wpAnyM _ _ _ _ _ _ _ _ _
              refine mix_quiet Keeps.ext 7 rfl (by kernel_rfl) rfl ?_
              intro ι U hne hU
              go_big_quiet_op
              clear hU hne U ι
              show wpAnyM _ _ _ _ _ _ _ _ _
              refine mix_quiet Keeps.ext 8 rfl (by kernel_rfl) rfl ?_
              intro ι U hne hU
              go_big_quiet_op
              clear hU hne U ι
              show wpAnyM _ _ _ _ _ _ _ _ _
              refine mix_quiet Keeps.ext 9 rfl (by kernel_rfl) rfl ?_
              intro ι U hne hU
              go_big_quiet_op
              clear hU hne U ι
              show wpAnyM _ _ _ _ _ _ _ _ _
              refine mix_quiet Keeps.ext 10 rfl (by kernel_rfl) rfl ?_
              intro ι U hne hU
              have hcv := fun ii => run_conv_cs (P := Try.prog) (w := U ii) Try.underlying40 Try.underlying5 Try.underlying9 (cap := cap) hY.out (Cs.mono htx (hU ii) (Nat.le_refl _))
              go_big_quiet_op
              clear hU hne hcv U ι
              show wpAnyM _ _ _ _ _ _ _ _ _
              refine mix_quiet Keeps.ext 0 rfl (by kernel_rfl) rfl ?_
              intro ι U hne hU
              go_big_quiet_op
              clear hU hne U ι
              show wpAnyM _ _ _ _ _ _ _ _ _
              refine mix_any 1 rfl (by kernel_rfl) rfl ?_
              go_wp2_with (first | (at_make; refine Stop.un ?_) | (at_builtin; refine Stop.un ?_) | (with_reducible refine Stop.conv 40 9 ?_) | (with_reducible refine Stop.conv 9 40 ?_))
              refine (rnum_any none 0 0 [] (N : Int) _ (Cs.nil _ _) rfl (by omega) (by omega) hneg).mono ?_
              rintro e w1 ⟨ao1, n1, cap1, hn1, rfl, o1⟩
              rw [List.nil_append, Int.toNat_natCast] at hn1 o1
              have H1 := Lib.hid hn1; clear hn1
              go_wp2_with (first | (at_make; refine Stop.un ?_) | (at_builtin; refine Stop.un ?_) | (with_reducible refine Stop.conv 40 9 ?_) | (with_reducible refine Stop.conv 9 40 ?_))
              refine MixPost.mk (Own.below o1) ?_
              refine mix_quiet Keeps.ext 2 rfl (by kernel_rfl) rfl ?_
              intro ι U hne hU
              have hcv := fun ii => run_conv_cs (P := Try.prog) (w := U ii) Try.underlying40 Try.underlying5 Try.underlying9 (cap := cap1) H1.out (Cs.mono (Own.cs o1) (hU ii) (Nat.le_refl _))
              go_big_quiet_op
              clear hU hne hcv U ι
              show wpAnyM _ _ _ _ _ _ _ _ _
              refine mix_quiet Keeps.ext 11 rfl (by kernel_rfl) rfl ?_
              intro ι U hne hU
              go_big_quiet_op
              clear hU hne U ι
              show wpAnyM _ _ _ _ _ _ _ _ _
              refine mix_end (by kernel_rfl) ?_
              have b1 := hx.trans (Own.below o1)
              have HH' := Lib.hid ((b1.block g hgl).trans HH.out)
              clear o1 H1 htx hx heq
              go_wp2_with (first | (at_make; refine Stop.un ?_) | (at_builtin; refine Stop.un ?_) | (with_reducible refine Stop.conv 40 9 ?_) | (with_reducible refine Stop.conv 9 40 ?_))
              refine (rfail_any e0 B T g HB _ _ HH'.out rfl).mono ?_
              rintro e w2 ⟨rfl, hr, hg⟩
              go_wp2_with (first | (at_make; refine Stop.un ?_) | (at_builtin; refine Stop.un ?_) | (with_reducible refine Stop.conv 40 9 ?_) | (with_reducible refine Stop.conv 9 40 ?_))
              go_ret
              obtain ⟨e1, e2, e3⟩ := E.out
              rw [e1, e2, e3]
              exact ⟨rfl, by simpa using hr, grown_trans (grown_below b1) hg⟩

set_option maxHeartbeats 400000 in
set_option maxRecDepth 100000 in
theorem rrint_any (e0 : TypeId) (B T : Nat) (g : Nat) (l : List UInt8) (bad : Bool) (w : World) (h : Rdr e0 B T w g l bad) :
    Calls Try.prog 46 #[.pointer (some ⟨g, 0, none⟩)] w (fun e w' => e = .returned (.int .i64 (zag (rdN l))) ∧ Rdr e0 B T w' g (rdRest l) (bad || rdBad l) ∧ w.grownBy w' (some g)) := by
  have c1 := Lib.hid (rrnum_any e0 B T g l bad w h)
  have hN := rdN_lt l
  clear h
  generalize rdN l = N at c1 hN
  have HN := Lib.hid hN
  clear hN
  go_enter Try.func46, Try.ntmps46
  go_wp2_with (first | (at_make; refine Stop.un ?_) | (at_builtin; refine Stop.un ?_))
  refine (c1.out).mono ?_
  rintro e w1 ⟨rfl, hr, hg⟩
  go_wp2_with (first | (at_make; refine Stop.un ?_) | (at_builtin; refine Stop.un ?_))
  refine (zag_any N _ HN.out).mono ?_
  rintro e w2 ⟨rfl, rfl⟩
  go_wp2_with (first | (at_make; refine Stop.un ?_) | (at_builtin; refine Stop.un ?_))
  go_ret
  exact ⟨rfl, hr, hg⟩

set_option maxHeartbeats 400000 in
set_option maxRecDepth 100000 in
theorem rrend_any (e0 : TypeId) (B T : Nat) (g : Nat) (l : List UInt8) (bad : Bool) (w : World) (h : Rdr e0 B T w g l bad) :
    Calls Try.prog 47 #[.pointer (some ⟨g, 0, none⟩)] w (fun e w' => e = .returned (.int .i64 (endE l bad)) ∧ w = w') := by
  obtain ⟨ao, n, cap, hh, hl, -⟩ := h
  have h0 := cell_of hh 0
  have h1 := cell_of hh 1
  simp at h0 h1
  clear hh
  cases bad with
  | true =>
    go_enter Try.func47, Try.ntmps47
    go_wp2
    go_ret
    exact ⟨rfl, rfl⟩
  | false =>
    cases l with
    | nil =>
      obtain rfl : n = 0 := by simpa using hl.symm
      go_enter Try.func47, Try.ntmps47
      go_wp2
      go_ret
      exact ⟨rfl, rfl⟩
    | cons c r =>
      have hp : (0 : Int) < (n : Int) := by rw [List.length_cons] at hl; omega
      have he : endE (c :: r) false = 6 := rfl
      rw [he]
      clear hl
      go_enter Try.func47, Try.ntmps47
      go_wp2
      go_ret
      exact ⟨rfl, rfl⟩

end Go.Proofs.Ytdpmaocbfmgmlaa
