/- A value's bits, and which values may be there: what the reference returns. -/
import Derived.Test.YtfakpmikflaofaaBloomP
import Derived.Test.YtfakpmikflaofaaInts
set_option linter.unusedVariables false
set_option linter.unusedSimpArgs false
namespace Go.Proofs.Ytfakpmikflaofaa
open Go.RowKit
theorem At.grown {w w' : World} {g : Nat} {cs : Array Value} {t : TypeId} {row : Option Nat} (h : At w g cs t) (hg : w.grownBy w' row) (hn : some g ≠ row) : At w' g cs t := (hg.block g h.lt hn).trans h
theorem low_bit3 (bs : List UInt8) (p : Nat) (h : p / 8 < bs.length) : ((((bs[p / 8]).toNat : Int) / 2 ^ (p % 8)).tmod 2 == 0) = !tst bs p := by
  rw [Int.tmod_eq_emod_of_nonneg (by rw [div_pow]; exact Int.natCast_nonneg _)]
  exact low_bit2 bs p h
def plcs (v : V) (M E : Nat) : List Int := (List.range E).map fun i => (plc v i M : Int)
theorem plcs_length (v : V) (M E : Nat) : (plcs v M E).length = E := by simp [plcs]
theorem plcs_get (v : V) (M E i : Nat) (h : i < E) : (plcs v M E)[i]? = some (plc v i M : Int) := by simp [plcs, h]
theorem plcs_step (v : V) (M j : Nat) : plcs v M (j + 1) = plcs v M j ++ [(plc v j M : Int)] := by simp [plcs, List.range_succ]
def RetI (w : World) (l : List Int) : Ending → World → Prop := fun e w' => ∃ (ao : Option Addr) (n cap : Nat), l.length = n ∧ e = .returned (.slice ao n cap) ∧ OwnI w w' (.slice ao n cap) n l
set_option maxHeartbeats 2000000 in
theorem places_any (v : V) (M E : Nat) (w : World) (hn : okV v) (hE : E ≤ 8) (hM : 0 < M) (hM2 : M ≤ 8192) :
    Calls Try.prog 21 #[v.val, .int .i64 (M : Int), .int .i64 (E : Int)] w (RetI w (plcs v M E)) := by
  have HH := Lib.hid (fun i w (hi : i < 100) => rhash_any v i w hn (by omega))
  have HL := Lib.hid (fun i (hi : i < 100) => (show hashV v i < 18446744073709551616 from hashN_lt (putV v) i (by omega)))
  have HS := Lib.hid (fun j => plcs_step v M j)
  have HP : Hid (∀ i, plc v i M = hashV v i % M) := Lib.hid (fun i => rfl)
  have H0 : Hid (plcs v M 0 = []) := Lib.hid rfl
  obtain ⟨k, n, s⟩ := v
  simp only [V.val] at HH ⊢
  go_enter Try.func21, Try.ntmps21
  go_upto_region 1 with fail
  have zv := At.new w #[.int .u8 k, .int .i64 n, .string s] 30
  have bz := (Below.refl w.heap.size w).alloc (Nat.le_refl _) (.cells #[.int .u8 k, .int .i64 n, .string s] 30)
  have hM3 : (M : Int) ≠ 0 := by omega
  generalize w.alloc (.cells #[.int .u8 k, .int .i64 n, .string s] 30) = w1 at zv bz ⊢
  go_wp2_with (first | (at_make; refine Stop.un ?_) | (at_builtin; refine Stop.un ?_) | (with_reducible refine Stop.conv 32 9 ?_) | (with_reducible refine Stop.conv 9 32 ?_))
  go_loopw [7, 8] (fun v' i wr => ∃ (j : Nat) (ab : Option Addr) (cb : Nat), j ≤ E ∧ i = .int .i64 (j : Int) ∧ v' = .slice ab j cb ∧ OwnI w wr (.slice ab j cb) j (plcs ⟨k, n, s⟩ M j) ∧ At wr w.heap.size #[.int .u8 k, .int .i64 n, .string s] 30 ∧ Hid (∀ q, (Value.slice ab j cb).ownBlock = some q → q ≠ w.heap.size)) (fun _ i _ => E - (intOf i).toNat)
  case atStart => exact ⟨0, none, 0, by omega, rfl, rfl, by rw [H0.out]; exact Own.nil _ _ bz, zv, Lib.hid (fun q hq => by cases hq)⟩
  case round =>
    clear zv bz
    obtain ⟨j, ab, cb, hj, rfl, rfl, hO, zv, HA⟩ := hrel
    by_cases hlt : j < E
    · have y0 := zv.cell 0 rfl
      have y1 := zv.cell 1 rfl
      have y2 := zv.cell 2 rfl
      have yl := zv.lt
      go_wp2_with (first | (at_make; refine Stop.un ?_) | (at_builtin; refine Stop.un ?_) | (with_reducible refine Stop.conv 32 9 ?_) | (with_reducible refine Stop.conv 9 32 ?_))
      refine (HH.out j _ (by omega)).mono ?_
      rintro e w2 ⟨rfl, b2⟩
      have hlt2 := HL.out j (by omega)
      have hpe := HP.out j
      have hst := HS.out j
      rw [hpe] at hst
      generalize hashV ⟨k, n, s⟩ j = H at hlt2 hst ⊢
      have HST := Lib.hid hst
      have hq1 : (H : Int) % (M : Int) < 8192 := by have := Int.emod_lt_of_pos (H : Int) (by omega : (0 : Int) < M); omega
      have hq0 : 0 ≤ (H : Int) % (M : Int) := Int.emod_nonneg _ hM3
      replace zv := zv.mono b2
      replace hO := hO.keep b2
      clear b2 y0 y1 y2 yl hpe hst
      go_wp2_with (first | (at_make; refine Stop.un ?_) | (at_builtin; refine Stop.un ?_) | (with_reducible refine Stop.conv 32 9 ?_) | (with_reducible refine Stop.conv 9 32 ?_))
      refine Stop.mk (app_i1 w _ _ rfl rfl hO rfl rfl (by omega) ?_)
      intro a3 c3 w3 hO3 hg3 hn3
      have zl := zv.lt
      have zv3 := At.grown zv hg3 (fun e => HA.out _ e.symm rfl)
      have HA3 : Hid (∀ q, (Value.slice a3 (j + 1) c3).ownBlock = some q → q ≠ w.heap.size) := Lib.hid (fun q hq => by
        rcases hn3 q hq with h | h
        · exact HA.out q h
        · omega)
      rw [show (H : Int) % (M : Int) = ((H % M : Nat) : Int) by rw [Int.natCast_emod], ← HST.out] at hO3
      clear hO zv hg3 hn3
      go_wp2_with (first | (at_make; refine Stop.un ?_) | (at_builtin; refine Stop.un ?_) | (with_reducible refine Stop.conv 32 9 ?_) | (with_reducible refine Stop.conv 9 32 ?_))
      go_roundw
      case rel => exact ⟨j + 1, a3, c3, by omega, by go_num, rfl, hO3, zv3, HA3⟩
      case measure => simp [intOf]; omega
    · have hjE : j = E := by omega
      subst hjE
      go_wp2_with (first | (at_make; refine Stop.un ?_) | (at_builtin; refine Stop.un ?_) | (with_reducible refine Stop.conv 32 9 ?_) | (with_reducible refine Stop.conv 9 32 ?_))
      go_ret
      exact ⟨_, _, _, OwnI.length hO, rfl, hO⟩
set_option maxHeartbeats 4000000 in
theorem rmay_any (bo : Option Addr) (bn bc : Nat) (bs : List UInt8) (v : V) (M E : Nat) (w : World) (hcb : Cs w bo (bcells bs)) (hbn : bs.length = bn) (hbc : bn ≤ bc) (hbm : bc ≤ maxLen) (hbl : bs.length = (M + 7) / 8) (hn : okV v) (hE : E ≤ 8) (hM : 0 < M) (hM2 : M ≤ 8192) :
    Calls Try.prog 16 #[.slice bo bn bc, v.val, .int .i64 (M : Int), .int .i64 (E : Int)] w (fun e w' => e = .returned (.bool (mayB bs v M E)) ∧ Below w.heap.size w w') := by
  have HP := Lib.hid (fun w => places_any v M E w hn hE hM hM2)
  have HG := Lib.hid (fun i h => plcs_get v M E i h)
  have HL := Lib.hid (plcs_length v M E)
  have HPL := Lib.hid (fun i => plc_lt v i hM)
  have HBL := Lib.hid hbl
  have HBN := Lib.hid hbn
  unfold maxLen at hbm
  generalize hR : mayB bs v M E = R
  have HR := Lib.hid hR
  clear hR hbl hbn
  have HMB := Lib.hid (mayB_iff bs v M E)
  generalize plcs v M E = ps at HP HG HL
  obtain ⟨k, n, s⟩ := v
  simp only [V.val] at HP ⊢
  go_enter Try.func16, Try.ntmps16
  go_wp2_with (first | (at_make; refine Stop.un ?_) | (at_builtin; refine Stop.un ?_) | (with_reducible refine Stop.conv 32 9 ?_) | (with_reducible refine Stop.conv 9 32 ?_))
  refine (HP.out _).mono ?_
  rintro e w1 ⟨a1, n1, c1, h1, rfl, o1⟩
  have b1 := ((Below.refl w.heap.size w).alloc (Nat.le_refl _) (.cells #[.int .u8 k, .int .i64 n, .string s] 30)).next (Own.below o1)
  have hn1 : n1 = E := by rw [← h1]; exact HL.out
  subst hn1
  have cs1 := Own.cs o1
  have le1 := owns_le o1.1
  have mx1 := owns_max o1.1
  unfold maxLen at mx1
  clear h1 o1 HP
  go_wp2_with (first | (at_make; refine Stop.un ?_) | (at_builtin; refine Stop.un ?_) | (with_reducible refine Stop.conv 32 9 ?_) | (with_reducible refine Stop.conv 9 32 ?_))
  go_loopw [10] (fun i wr => ∃ j : Nat, j ≤ n1 ∧ i = .int .i64 (j : Int) ∧ Below w.heap.size w wr ∧ Cs wr a1 (icells ps) ∧ Hid (∀ i, i < j → tst bs (plc ⟨k, n, s⟩ i M) = true)) (fun i _ => n1 - (intOf i).toNat)
  case atStart => exact ⟨0, by omega, rfl, b1, cs1, Lib.hid (fun i hi => by omega)⟩
  case round =>
    clear b1 cs1
    obtain ⟨j, hj, rfl, b1, cs1, HI⟩ := hrel
    by_cases hlt : j < n1
    · have hg := HG.out j hlt
      have hp := HPL.out j
      have hst : tst bs (plc ⟨k, n, s⟩ j M) = true → ∀ i, i < j + 1 → tst bs (plc ⟨k, n, s⟩ i M) = true := fun h i hi => by
        by_cases e : i = j
        · subst e; exact h
        · exact HI.out i (by omega)
      have hno : tst bs (plc ⟨k, n, s⟩ j M) = false → R = false := fun h => by
        rw [← HR.out]
        cases e : mayB bs ⟨k, n, s⟩ M n1 with
        | false => rfl
        | true => have := HMB.out.1 e j hlt; rw [h] at this; cases this
      generalize plc ⟨k, n, s⟩ j M = p at hp hst hno hg
      have HST := Lib.hid hst
      have HNO := Lib.hid hno
      have hpl : p / 8 < bs.length := by rw [HBL.out]; omega
      have hpb : p / 8 < bn := by have := HBN.out; omega
      obtain ⟨q1, o1, rfl⟩ := cs1.addr (by rw [icells_length, HL.out]; omega)
      obtain ⟨q2, o2, rfl⟩ := hcb.addr (by rw [bcells_length]; omega)
      have x0 : wr.cell? ⟨q1, o1 + j, none⟩ = some (.int .i64 (p : Int)) := cs1.at (by simp [icells, hg])
      have x1 : wr.cell? ⟨q2, o2 + p / 8, none⟩ = some (.int .u8 ((bs[p / 8]).toNat : Int)) := (hcb.mono b1 (Nat.le_refl _)).at (by simp [bcells, hpl])
      have hlow := low_bit3 bs p hpl
      clear hst hno hg
      have hpp : 0 ≤ (p : Int) := by omega
      go_wp2_with (first | (at_make; refine Stop.un ?_) | (at_builtin; refine Stop.un ?_) | (with_reducible refine Stop.conv 32 9 ?_) | (with_reducible refine Stop.conv 9 32 ?_))
      cases ht : tst bs p with
      | true =>
        rw [ht] at hlow
        have HI2 := Lib.hid (HST.out ht)
        clear ht HI HST HNO
        generalize (bs[p / 8]).toNat = c at x1 hlow
        refine mix_startE 16 rfl (by kernel_rfl) ?_
        intro xq hxq
        replace x0 := Ext.cell hxq x0
        replace x1 := Ext.cell hxq x1
        replace b1 := Below.next b1 hxq
        replace cs1 := Cs.mono cs1 hxq (Nat.le_refl _)
        clear hxq
        refine mix_quiet Keeps.ext 0 rfl (by kernel_rfl) rfl ?_
        intro ι U hne hU
        go_big_quiet_op
        clear hU hne U ι
        show wpAnyM _ _ _ _ _ _ _ _ _
        refine mix_quiet Keeps.ext 1 rfl (by kernel_rfl) rfl ?_
        intro ι U hne hU
        go_big_quiet_op
        clear hU hne U ι
        show wpAnyM _ _ _ _ _ _ _ _ _
        refine mix_quiet Keeps.ext 2 rfl (by kernel_rfl) rfl ?_
        intro ι U hne hU
        go_big_quiet_op
        clear hU hne U ι
        show wpAnyM _ _ _ _ _ _ _ _ _
        refine mix_quiet Keeps.ext 3 rfl (by kernel_rfl) rfl ?_
        intro ι U hne hU
        go_big_quiet_op
        clear hU hne U ι
        show wpAnyM _ _ _ _ _ _ _ _ _
        refine mix_quiet Keeps.ext 4 rfl (by kernel_rfl) rfl ?_
        intro ι U hne hU
        have hcw0 := fun ii => (hU ii).cell x0
        have hcw1 := fun ii => (hU ii).cell x1
        go_big_quiet_op
        clear hU hne hcw0 hcw1 U ι
        show wpAnyM _ _ _ _ _ _ _ _ _
        refine mix_quiet Keeps.ext 5 rfl (by kernel_rfl) rfl ?_
        intro ι U hne hU
        go_big_quiet_op
        clear hU hne U ι
        show wpAnyM _ _ _ _ _ _ _ _ _
        refine mix_quiet Keeps.ext 6 rfl (by kernel_rfl) rfl ?_
        intro ι U hne hU
        go_big_quiet_op
        clear hU hne U ι
        show wpAnyM _ _ _ _ _ _ _ _ _
        refine mix_quiet Keeps.ext 7 rfl (by kernel_rfl) rfl ?_
        intro ι U hne hU
        have hcw0 := fun ii => (hU ii).cell x0
        have hcw1 := fun ii => (hU ii).cell x1
        go_big_quiet_op
        clear hU hne hcw0 hcw1 U ι
        show wpAnyM _ _ _ _ _ _ _ _ _
        refine mix_quiet Keeps.ext 8 rfl (by kernel_rfl) rfl ?_
        intro ι U hne hU
        go_big_quiet_op
        clear hU hne U ι
        show wpAnyM _ _ _ _ _ _ _ _ _
        refine mix_quiet Keeps.ext 9 rfl (by kernel_rfl) rfl ?_
        intro ι U hne hU
        go_big_quiet_op
        clear hU hne U ι
        show wpAnyM _ _ _ _ _ _ _ _ _
        refine mix_quiet Keeps.ext 10 rfl (by kernel_rfl) rfl ?_
        intro ι U hne hU
        go_big_quiet_op
        clear hU hne U ι
        show wpAnyM _ _ _ _ _ _ _ _ _
        refine mix_quiet Keeps.ext 11 rfl (by kernel_rfl) rfl ?_
        intro ι U hne hU
        have hcw0 := fun ii => (hU ii).cell x0
        have hcw1 := fun ii => (hU ii).cell x1
        go_big_quiet_op
        clear hU hne hcw0 hcw1 U ι
        show wpAnyM _ _ _ _ _ _ _ _ _
        refine mix_quiet Keeps.ext 12 rfl (by kernel_rfl) rfl ?_
        intro ι U hne hU
        go_big_quiet_op
        clear hU hne U ι
        show wpAnyM _ _ _ _ _ _ _ _ _
        refine mix_quiet Keeps.ext 13 rfl (by kernel_rfl) rfl ?_
        intro ι U hne hU
        go_big_quiet_op
        clear hU hne U ι
        show wpAnyM _ _ _ _ _ _ _ _ _
        refine mix_quiet Keeps.ext 14 rfl (by kernel_rfl) rfl ?_
        intro ι U hne hU
        go_big_quiet_op
        clear hU hne U ι
        show wpAnyM _ _ _ _ _ _ _ _ _
        refine mix_quiet Keeps.ext 15 rfl (by kernel_rfl) rfl ?_
        intro ι U hne hU
        go_big_quiet_op
        clear hU hne U ι
        show wpAnyM _ _ _ _ _ _ _ _ _
        refine mix_end (by kernel_rfl) ?_
        go_wp2_with (first | (at_make; refine Stop.un ?_) | (at_builtin; refine Stop.un ?_) | (with_reducible refine Stop.conv 32 9 ?_) | (with_reducible refine Stop.conv 9 32 ?_))
        go_roundw
        case rel => exact ⟨j + 1, by omega, by go_num, b1, cs1, HI2⟩
        case measure => simp [intOf]; omega
      | false =>
        rw [ht] at hlow
        have hr := HNO.out ht
        subst hr
        clear ht HI HST HNO
        generalize (bs[p / 8]).toNat = c at x1 hlow
        refine mix_startE 16 rfl (by kernel_rfl) ?_
        intro xq hxq
        replace x0 := Ext.cell hxq x0
        replace x1 := Ext.cell hxq x1
        replace b1 := Below.next b1 hxq
        replace cs1 := Cs.mono cs1 hxq (Nat.le_refl _)
        clear hxq
        refine mix_quiet Keeps.ext 0 rfl (by kernel_rfl) rfl ?_
        intro ι U hne hU
        go_big_quiet_op
        clear hU hne U ι
        show wpAnyM _ _ _ _ _ _ _ _ _
        refine mix_quiet Keeps.ext 1 rfl (by kernel_rfl) rfl ?_
        intro ι U hne hU
        go_big_quiet_op
        clear hU hne U ι
        show wpAnyM _ _ _ _ _ _ _ _ _
        refine mix_quiet Keeps.ext 2 rfl (by kernel_rfl) rfl ?_
        intro ι U hne hU
        go_big_quiet_op
        clear hU hne U ι
        show wpAnyM _ _ _ _ _ _ _ _ _
        refine mix_quiet Keeps.ext 3 rfl (by kernel_rfl) rfl ?_
        intro ι U hne hU
        go_big_quiet_op
        clear hU hne U ι
        show wpAnyM _ _ _ _ _ _ _ _ _
        refine mix_quiet Keeps.ext 4 rfl (by kernel_rfl) rfl ?_
        intro ι U hne hU
        have hcw0 := fun ii => (hU ii).cell x0
        have hcw1 := fun ii => (hU ii).cell x1
        go_big_quiet_op
        clear hU hne hcw0 hcw1 U ι
        show wpAnyM _ _ _ _ _ _ _ _ _
        refine mix_quiet Keeps.ext 5 rfl (by kernel_rfl) rfl ?_
        intro ι U hne hU
        go_big_quiet_op
        clear hU hne U ι
        show wpAnyM _ _ _ _ _ _ _ _ _
        refine mix_quiet Keeps.ext 6 rfl (by kernel_rfl) rfl ?_
        intro ι U hne hU
        go_big_quiet_op
        clear hU hne U ι
        show wpAnyM _ _ _ _ _ _ _ _ _
        refine mix_quiet Keeps.ext 7 rfl (by kernel_rfl) rfl ?_
        intro ι U hne hU
        have hcw0 := fun ii => (hU ii).cell x0
        have hcw1 := fun ii => (hU ii).cell x1
        go_big_quiet_op
        clear hU hne hcw0 hcw1 U ι
        show wpAnyM _ _ _ _ _ _ _ _ _
        refine mix_quiet Keeps.ext 8 rfl (by kernel_rfl) rfl ?_
        intro ι U hne hU
        go_big_quiet_op
        clear hU hne U ι
        show wpAnyM _ _ _ _ _ _ _ _ _
        refine mix_quiet Keeps.ext 9 rfl (by kernel_rfl) rfl ?_
        intro ι U hne hU
        go_big_quiet_op
        clear hU hne U ι
        show wpAnyM _ _ _ _ _ _ _ _ _
        refine mix_quiet Keeps.ext 10 rfl (by kernel_rfl) rfl ?_
        intro ι U hne hU
        go_big_quiet_op
        clear hU hne U ι
        show wpAnyM _ _ _ _ _ _ _ _ _
        refine mix_quiet Keeps.ext 11 rfl (by kernel_rfl) rfl ?_
        intro ι U hne hU
        have hcw0 := fun ii => (hU ii).cell x0
        have hcw1 := fun ii => (hU ii).cell x1
        go_big_quiet_op
        clear hU hne hcw0 hcw1 U ι
        show wpAnyM _ _ _ _ _ _ _ _ _
        refine mix_quiet Keeps.ext 12 rfl (by kernel_rfl) rfl ?_
        intro ι U hne hU
        go_big_quiet_op
        clear hU hne U ι
        show wpAnyM _ _ _ _ _ _ _ _ _
        refine mix_quiet Keeps.ext 13 rfl (by kernel_rfl) rfl ?_
        intro ι U hne hU
        go_big_quiet_op
        clear hU hne U ι
        show wpAnyM _ _ _ _ _ _ _ _ _
        refine mix_quiet Keeps.ext 14 rfl (by kernel_rfl) rfl ?_
        intro ι U hne hU
        go_big_quiet_op
        clear hU hne U ι
        show wpAnyM _ _ _ _ _ _ _ _ _
        refine mix_quiet Keeps.ext 15 rfl (by kernel_rfl) rfl ?_
        intro ι U hne hU
        go_big_quiet_op
        clear hU hne U ι
        show wpAnyM _ _ _ _ _ _ _ _ _
        refine mix_end (by kernel_rfl) ?_
        go_wp2_with (first | (at_make; refine Stop.un ?_) | (at_builtin; refine Stop.un ?_) | (with_reducible refine Stop.conv 32 9 ?_) | (with_reducible refine Stop.conv 9 32 ?_))
        go_ret
        exact ⟨rfl, b1⟩
    · have hr : R = true := by
        rw [← HR.out]
        exact HMB.out.2 (fun i hi => HI.out i (by omega))
      subst hr
      go_wp2_with (first | (at_make; refine Stop.un ?_) | (at_builtin; refine Stop.un ?_) | (with_reducible refine Stop.conv 32 9 ?_) | (with_reducible refine Stop.conv 9 32 ?_))
      go_ret
      exact ⟨rfl, b1⟩
end Go.Proofs.Ytfakpmikflaofaa
