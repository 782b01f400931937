/- The numbers of runs: what the program and the reference return. -/
import Derived.Test.YtkgcjafediimnaaRSum
set_option linter.unusedVariables false
set_option linter.unusedSimpArgs false
namespace Go.Proofs.Ytkgcjafediimnaa
open Go.RowKit
def RetF (w : World) (l : List Int) (c : Int) : Ending → World → Prop := fun e w' =>
  ∃ (ao : Option Addr) (n cap : Nat), l.length = n ∧ e = .returned (.tuple #[.slice ao n cap, .int .i64 c]) ∧ OwnI w w' (.slice ao n cap) n l
theorem flatR_step (rs : List Rn) (j : Nat) (h : j < rs.length) : flatR (rs.take (j + 1)) = flatR (rs.take j) ++ List.replicate rs[j].k.toNat rs[j].n := by
  rw [List.take_succ_eq_append_getElem h, flatR, flatR, List.flatMap_append, List.flatMap_cons, List.flatMap_nil, List.append_nil]
theorem flatE_ok {rs : List Rn} (h : errR rs = 0) : flatE rs = flatR rs := by unfold flatE; rw [if_pos h]
theorem flatE_no {rs : List Rn} (h : errR rs ≠ 0) : flatE rs = [] := by unfold flatE; rw [if_neg h]
theorem repl_more (i : Nat) (n : Int) : List.replicate (i + 1) n = List.replicate i n ++ [n] := by rw [List.replicate_succ']
theorem flatR_take_le (rs : List Rn) (j : Nat) (h : less1 rs = false) : ((flatR (rs.take j)).length : Int) ≤ totR rs := by
  rw [flatR_length _ (fun r hr => less1_false h r (List.mem_of_mem_take hr))]
  exact (totR_take rs j h).2
theorem At.grown {w w' : World} {g : Nat} {cs : Array Value} {t : TypeId} {row : Option Nat} (h : At w g cs t) (hg : w.grownBy w' row) (hn : some g ≠ row) : At w' g cs t := (hg.block g h.lt hn).trans h
set_option maxHeartbeats 4000000 in
theorem flat_any (ao : Option Addr) (m cap : Nat) (l : List Rn) (w : World) (hc : Cs w ao (rcells l)) (hm : l.length = m) (hl : m ≤ cap) (hcm : cap ≤ maxLen) (hwf : ∀ r ∈ l, r.k ≤ 9223372036854775807) :
    Calls Try.prog 17 #[.slice ao m cap] w (RetF w (flatE l) (errR l)) := by
  have HC := Lib.hid (fun w hc => sum_any ao m cap l w hc hm hl hcm hwf)
  have HM := Lib.hid hm
  unfold maxLen at hcm
  obtain ⟨i0, hi, hz0, hz1, hz2⟩ := info_parts Try.infoI64
  clear hm hwf
  by_cases he : errR l = 0
  · have hS : sumR l = totR l := by unfold sumR; rw [if_pos he]
    have hp := (errR_ok he).1
    have h4 := (errR_ok he).2
    rw [he, flatE_ok he]
    rw [he, hS] at HC
    have HP := Lib.hid (less1_false hp)
    have HL := Lib.hid (fun j => flatR_take_le l j hp)
    have ht0 := (totR_take l l.length hp)
    rw [List.take_length] at ht0
    have ht0 := ht0.1
    clear he hS hp
    obtain ⟨t, ht⟩ : ∃ t : Nat, totR l = t := ⟨(totR l).toNat, by omega⟩
    rw [ht] at HC h4 HL
    have HT := Lib.hid ht
    clear ht ht0
    go_enter Try.func17, Try.ntmps17
    go_wp2_with (first | (at_make; refine Stop.un ?_) | (at_builtin; refine Stop.un ?_) | (with_reducible refine Stop.conv 24 9 ?_) | (with_reducible refine Stop.conv 9 24 ?_))
    refine (HC.out _ hc).mono ?_
    rintro e w1 ⟨rfl, b1⟩
    clear HC
    go_wp2_with (first | (at_make; refine Stop.un ?_) | (at_builtin; refine Stop.un ?_) | (with_reducible refine Stop.conv 24 9 ?_) | (with_reducible refine Stop.conv 9 24 ?_))
    refine Stop.mk (wpList_make_own _ rfl _ _ 22 rfl w1.heap.size 3 i0 (.int .i64 0) 1 Try.underlying22 hi hz0 hz1 _ _ _ t rfl rfl (by omega) (by rw [hz2]; omega) (by unfold maxLen; omega) (Nat.le_refl _) ?_)
    intro w2 ho1 hg1
    have hO : OwnI w1 w2 _ 0 [] := Own.made ho1 hg1 (Below.refl _ _)
    replace hO := Own.up hO b1
    clear ho1 hg1 hz2 hz1 hz0 hi i0 b1
    go_wp2_with (first | (at_make; refine Stop.un ?_) | (at_builtin; refine Stop.un ?_) | (with_reducible refine Stop.conv 24 9 ?_) | (with_reducible refine Stop.conv 9 24 ?_))
    go_loopw [6, 8, 21] (fun v _ i wr => ∃ (j k : Nat) (ab : Option Addr) (cb : Nat), j ≤ m ∧ i = .int .i64 (j : Int) ∧ v = .slice ab k cb ∧ k ≤ 4096 ∧ OwnI w wr (.slice ab k cb) k (flatR (l.take j))) (fun _ _ i _ => m - (intOf i).toNat)
    case atStart => exact ⟨0, 0, _, _, by omega, rfl, rfl, by omega, hO⟩
    case round =>
      clear hO
      obtain ⟨j, k, ab, cb, hj, rfl, rfl, hk, hO⟩ := hrel
      by_cases hlt : j < m
      · have hjl : j < l.length := by have := HM.out; omega
        obtain ⟨b, o, rfl⟩ := hc.addr (by rw [rcells_length]; omega)
        obtain ⟨x0, x1⟩ := (hc.mono (Own.below hO) (Nat.le_refl _)).rat hjl
        have hst := flatR_step l j hjl
        have hp := HP.out l[j] (List.getElem_mem _)
        have hle := HL.out (j + 1)
        rw [hst] at hle
        have hlk := OwnI.length hO
        generalize l[j] = x at x0 x1 hst hp hle
        obtain ⟨n, c⟩ := x
        simp only at x0 x1 hst hp hle
        obtain ⟨c, rfl⟩ : ∃ q : Nat, c = q := ⟨c.toNat, by omega⟩
        rw [Int.toNat_natCast, List.length_append, List.length_replicate, hlk] at hle
        rw [Int.toNat_natCast] at hst
        have hkc : k + c ≤ 4096 := by omega
        have HST := Lib.hid hst
        generalize flatR (l.take j) = acc at hO HST
        have hbz := (Below.refl wr.heap.size wr).alloc (Nat.le_refl _) (.cells #[.int .i64 n, .int .i64 c] 34)
        have zr := At.new wr #[.int .i64 n, .int .i64 c] 34
        have hzb : wr.heap.size < (wr.alloc (.cells #[.int .i64 n, .int .i64 c] 34)).heap.size := by simp
        clear hst hle hlk hjl
        go_wp2_with (first | (at_make; refine Stop.un ?_) | (at_builtin; refine Stop.un ?_) | (with_reducible refine Stop.conv 24 9 ?_) | (with_reducible refine Stop.conv 9 24 ?_))
        have hap : Hid (∀ q, (Value.slice ab k cb).ownBlock = some q → q ≠ wr.heap.size) := Lib.hid (fun q hq => by have := hO.lt q hq; omega)
        replace hO := hO.keep hbz
        clear x0 x1 hbz
        generalize wr.heap.size = g at zr hzb hap ⊢
        generalize wr.alloc (.cells #[.int .i64 n, .int .i64 c] 34) = wz at hO zr hzb ⊢
        go_loopw [6, 27] (fun v i wr => ∃ (i' k' : Nat) (ab' : Option Addr) (cb' : Nat), i' ≤ c ∧ i = .int .i64 (i' : Int) ∧ v = .slice ab' k' cb' ∧ OwnI w wr (.slice ab' k' cb') k' (acc ++ List.replicate i' n) ∧ At wr g #[.int .i64 n, .int .i64 c] 34 ∧ Hid (∀ q, (Value.slice ab' k' cb').ownBlock = some q → q ≠ g) ∧ Hid (k' = k + i')) (fun _ i _ => c - (intOf i).toNat)
        case atStart => exact ⟨0, k, ab, cb, by omega, rfl, rfl, by rw [List.replicate_zero, List.append_nil]; exact hO, zr, hap, Lib.hid rfl⟩
        case round =>
          clear hO zr hap hzb
          obtain ⟨i, k2, ab2, cb2, hi, rfl, rfl, hO, zr, hap, HK⟩ := hrel
          by_cases hlt2 : i < c
          · have z0 := zr.cell 0 rfl
            have z1 := zr.cell 1 rfl
            have zl := zr.lt
            have hk2 : k2 + 1 ≤ 4096 := by have := HK.out; omega
            go_wp2_with (first | (at_make; refine Stop.un ?_) | (at_builtin; refine Stop.un ?_) | (with_reducible refine Stop.conv 24 9 ?_) | (with_reducible refine Stop.conv 9 24 ?_))
            refine Stop.mk (app_i1 w _ _ rfl rfl hO rfl rfl (by omega) ?_)
            intro a3 c3 w3 hO3 hg3 hn3
            have zr3 := zr.grown hg3 (fun e => hap.out g e.symm rfl)
            have hap3 : Hid (∀ q, (Value.slice a3 (k2 + 1) c3).ownBlock = some q → q ≠ g) := Lib.hid (fun q hq => by
              rcases hn3 q hq with h | h
              · exact hap.out q h
              · omega)
            rw [List.append_assoc, ← repl_more] at hO3
            clear hO zr hap hg3 hn3 z0 z1 zl
            go_wp2_with (first | (at_make; refine Stop.un ?_) | (at_builtin; refine Stop.un ?_) | (with_reducible refine Stop.conv 24 9 ?_) | (with_reducible refine Stop.conv 9 24 ?_))
            go_roundw
            case rel => exact ⟨i + 1, k2 + 1, a3, c3, by omega, by go_num, rfl, hO3, zr3, hap3, Lib.hid (by have := HK.out; omega)⟩
            case measure => simp [intOf]; omega
          · have hic : i = c := by omega
            have z0 := zr.cell 0 rfl
            have z1 := zr.cell 1 rfl
            have zl := zr.lt
            have hk2 : k2 ≤ 4096 := by have := HK.out; omega
            subst hic
            rw [← HST.out] at hO
            go_wp2_with (first | (at_make; refine Stop.un ?_) | (at_builtin; refine Stop.un ?_) | (with_reducible refine Stop.conv 24 9 ?_) | (with_reducible refine Stop.conv 9 24 ?_))
            go_roundw
            case rel => exact ⟨j + 1, k2, ab2, cb2, by omega, by go_num, rfl, hk2, hO⟩
            case measure => simp [intOf]; omega
      · rw [List.take_of_length_le (by have := HM.out; omega)] at hO
        go_wp2_with (first | (at_make; refine Stop.un ?_) | (at_builtin; refine Stop.un ?_) | (with_reducible refine Stop.conv 24 9 ?_) | (with_reducible refine Stop.conv 9 24 ?_))
        go_ret2
        exact ⟨_, _, _, OwnI.length hO, rfl, hO⟩
  · rw [flatE_no he]
    have hne : (errR l != 0) = true := by simpa using he
    clear he
    generalize errR l = E at HC hne
    generalize sumR l = S at HC
    go_enter Try.func17, Try.ntmps17
    go_wp2_with (first | (at_make; refine Stop.un ?_) | (at_builtin; refine Stop.un ?_) | (with_reducible refine Stop.conv 24 9 ?_) | (with_reducible refine Stop.conv 9 24 ?_))
    refine (HC.out _ hc).mono ?_
    rintro e w1 ⟨rfl, b1⟩
    go_wp2_with (first | (at_make; refine Stop.un ?_) | (at_builtin; refine Stop.un ?_) | (with_reducible refine Stop.conv 24 9 ?_) | (with_reducible refine Stop.conv 9 24 ?_))
    go_ret2
    exact ⟨none, 0, 0, rfl, rfl, Own.nil _ _ b1⟩
end Go.Proofs.Ytkgcjafediimnaa
