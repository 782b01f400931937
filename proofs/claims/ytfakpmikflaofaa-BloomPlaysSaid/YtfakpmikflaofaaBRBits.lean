/- A filter's bits: what the reference returns. -/
import Derived.Test.YtfakpmikflaofaaBRef
set_option linter.unusedVariables false
set_option linter.unusedSimpArgs false
namespace Go.Proofs.Ytfakpmikflaofaa
open Go.RowKit
def ocells (l : List Bool) : List Value := l.map Value.bool
theorem ocells_length (l : List Bool) : (ocells l).length = l.length := by simp [ocells]
theorem At.own {w0 w : World} {g : Nat} {xs : List Value} {e : TypeId} (h : At w g xs.toArray e) (hb : Below w0.heap.size w0 w) (hg : w0.heap.size ≤ g) (n : Nat) (hn : xs.length = n) (hm : n ≤ maxLen) : Own w0 w e 1 (.slice (some ⟨g, 0, none⟩) n n) n xs :=
  ⟨⟨by rw [hn, Nat.mul_one], .inr ⟨g, n, xs.toArray, rfl, hg, h, Nat.le_refl _, hm, by rw [List.size_toArray, hn, Nat.mul_one], List.take_of_length_le (by simp [hn])⟩⟩, hb⟩
/-- The places that are on. -/
def OnS (on : List Bool) (M : Nat) (f : Nat → Bool) : Prop := on.length = M ∧ ∀ p, p < M → on[p]? = some (f p)
theorem OnS.zero (M : Nat) : OnS (List.replicate M false) M (fun _ => false) := ⟨by simp, fun p hp => by simp [hp]⟩
theorem OnS.set {on : List Bool} {M : Nat} {f : Nat → Bool} (h : OnS on M f) (q : Nat) : OnS (on.set q true) M (fun p => f p || decide (p = q)) := by
  refine ⟨by simp [h.1], fun p hp => ?_⟩
  by_cases e : p = q
  · subst e; rw [List.getElem?_set_self (by rw [h.1]; exact hp)]; simp
  · rw [List.getElem?_set_ne (Ne.symm e), h.2 p hp]; simp [e]
theorem OnS.congr {on : List Bool} {M : Nat} {f f' : Nat → Bool} (h : OnS on M f) (e : ∀ p, f p = f' p) : OnS on M f' := ⟨h.1, fun p hp => by rw [h.2 p hp, e]⟩
/-- The bits below k, of the places that are on. -/
def BtS (bs : List UInt8) (M k : Nat) (f : Nat → Bool) : Prop := bs.length = (M + 7) / 8 ∧ ∀ p, tst bs p = (decide (p < k) && f p)
theorem BtS.zero (M : Nat) (f : Nat → Bool) : BtS (zeros M) M 0 f := ⟨zeros_length M, fun p => by rw [tst_zeros]; simp⟩
theorem BtS.skip {bs : List UInt8} {M k : Nat} {f : Nat → Bool} (h : BtS bs M k f) (hk : f k = false) : BtS bs M (k + 1) f := by
  refine ⟨h.1, fun p => ?_⟩
  rw [h.2 p]
  by_cases e : p = k
  · subst e; simp [hk]
  · have : decide (p < k) = decide (p < k + 1) := by by_cases h1 : p < k <;> simp [h1] <;> omega
    rw [this]
theorem BtS.put {bs : List UInt8} {M k : Nat} {f : Nat → Bool} (h : BtS bs M k f) (hk : f k = true) (hkm : k < M) : BtS (setB bs k) M (k + 1) f := by
  refine ⟨by rw [setB_length]; exact h.1, fun p => ?_⟩
  rw [tst_setB _ _ _ (by rw [h.1]; omega), h.2 p]
  by_cases e : p = k
  · subst e; simp [hk]
  · have : decide (p < k) = decide (p < k + 1) := by by_cases h1 : p < k <;> simp [h1] <;> omega
    rw [this]; simp [e]
theorem BtS.low {bs : List UInt8} {M k : Nat} {f : Nat → Bool} (h : BtS bs M k f) (hl : k / 8 < bs.length) : (bs[k / 8]).toNat < 2 ^ (k % 8) := by
  apply Nat.lt_pow_two_of_testBit
  intro i hi
  rcases Nat.lt_or_ge i 8 with h1 | h1
  · rw [← tst_byte bs (k / 8) i hl h1, h.2]
    have : ¬ 8 * (k / 8) + i < k := by omega
    simp [this]
  · exact Nat.testBit_lt_two_pow (Nat.lt_of_lt_of_le (bs[k / 8]).toNat_lt (Nat.pow_le_pow_right (by decide) h1))
theorem BtS.all {bs : List UInt8} {l : List V} {M E : Nat} (hM : 0 < M) (h : BtS bs M M (fun p => l.any fun v => hits v M E p)) : bs = allB l M E := by
  refine bits_ext (by rw [h.1, allB_length _ _ _ hM]) (fun p => ?_)
  rw [h.2, tst_allB _ _ _ _ hM]
  by_cases e : p < M
  · simp [e]
  · have : (l.any fun v => hits v M E p) = false := by
      rw [List.any_eq_false]
      intro v _ hv
      obtain ⟨i, _, hi⟩ := List.any_eq_true.1 hv
      have := plc_lt v i hM
      simp at hi
      omega
    simp [this]
theorem Try.infoBool : (Try.prog.info? 4).map (fun i => (i.zero, i.size, i.bytes)) = some (some (.bool false), 1, 1) := by kernel_rfl
theorem add_eq (c : UInt8) (k : Nat) (h : c.toNat < 2 ^ (k % 8)) : c.toNat + 2 ^ (k % 8) = c.toNat ||| 2 ^ (k % 8) := by
  have h1 := Nat.two_pow_add_eq_or_of_lt h 1
  rw [Nat.mul_one] at h1
  rw [Nat.add_comm, h1, Nat.or_comm]
theorem set_eq2 (c : UInt8) (k : Nat) (h : c.toNat < 2 ^ (k % 8)) : (.int .u8 (((c.toNat : Int) + 2 ^ (k % 8)) % 256) : Value) = .int .u8 ((UInt8.ofNat (c.toNat ||| 2 ^ (k % 8))).toNat : Int) := by
  have hc : c.toNat < 256 := c.toNat_lt
  have hp := pow8 k
  have hx : c.toNat ||| 2 ^ (k % 8) < 2 ^ 8 := Nat.or_lt_two_pow (by omega) (by omega)
  have e : ((c.toNat : Int) + 2 ^ (k % 8)) = ((c.toNat ||| 2 ^ (k % 8) : Nat) : Int) := by
    rw [← add_eq c k h, Int.natCast_add, Int.natCast_pow]; rfl
  rw [e, UInt8.toNat_ofNat', Nat.mod_eq_of_lt hx, show (((c.toNat ||| 2 ^ (k % 8) : Nat) : Int) % 256) = ((c.toNat ||| 2 ^ (k % 8) : Nat) : Int) by omega]
theorem at_put {w : World} {h : Nat} {bs : List UInt8} {t : TypeId} (z : At w h (bcells bs).toArray t) (k : Nat) (hkl : k / 8 < bs.length) (hl : (bs[k / 8]).toNat < 2 ^ (k % 8)) :
    At (w.setCell ⟨h, k / 8, none⟩ (.int .u8 (((bs[k / 8]).toNat + 2 ^ (k % 8) : Int) % 256))) h (bcells (setB bs k)).toArray t := by
  rw [set_eq2 _ _ hl]
  have hs := z.set (k / 8) (.int .u8 ((UInt8.ofNat ((bs[k / 8]).toNat ||| 2 ^ (k % 8))).toNat : Int))
  have e : (bcells bs).toArray.setIfInBounds (k / 8) (.int .u8 ((UInt8.ofNat ((bs[k / 8]).toNat ||| 2 ^ (k % 8))).toNat : Int)) = (bcells (setB bs k)).toArray := by
    simp [bcells, setB, List.getD_eq_getElem?_getD, hkl, List.map_set]
  rw [e] at hs
  exact hs
set_option maxHeartbeats 8000000 in
theorem rbits_any (ao : Option Addr) (m cap : Nat) (l : List V) (M E : Nat) (w : World) (hc : Cs w ao (vcells l)) (hm : l.length = m) (hl : m ≤ cap) (hcm : cap ≤ maxLen) (hok : ∀ v ∈ l, okV v) (hE : E ≤ 8) (hM : 0 < M) (hM2 : M ≤ 8192) :
    Calls Try.prog 13 #[.slice ao m cap, .int .i64 (M : Int), .int .i64 (E : Int)] w (RetB w (allB l M E)) := by
  have HML := Lib.hid hm
  have HOK := Lib.hid hok
  have HEND := Lib.hid (fun bs h => BtS.all (bs := bs) (l := l) (M := M) (E := E) hM h)
  unfold maxLen at hcm
  clear hm hok
  obtain ⟨i0, hi, hz0, hz1, hz2⟩ := info_parts Try.infoBool
  go_enter Try.func13, Try.ntmps13
  go_wp2_with (first | (at_make; refine Stop.un ?_) | (at_builtin; refine Stop.un ?_) | (with_reducible refine Stop.conv 32 9 ?_) | (with_reducible refine Stop.conv 9 32 ?_))
  refine Stop.mk (wpList_make_full _ rfl _ _ 49 rfl w.heap.size 4 i0 (.bool false) 1 Try.underlying49 hi hz0 hz1 _ _ _ _ M rfl rfl rfl rfl (by rw [hz2]; omega) (by unfold maxLen; omega) (Nat.le_refl _) ?_)
  intro w1 o1 g1
  have b1 : Below w.heap.size w w1 := (Below.refl _ _).grown g1 (Nat.le_refl _) (fun _ h => by cases h)
  have zo := own_at o1
  rw [show (madeCells (Value.bool false).cells (M * 1)).toList = ocells (List.replicate M false) from by simp [ocells, Value.cells, toList_madeCells_one]] at zo
  have HO0 := Lib.hid (OnS.zero M)
  generalize List.replicate M false = on0 at zo HO0
  clear o1 g1 hz2 hz1 hz0 hi i0
  go_wp2_with (first | (at_make; refine Stop.un ?_) | (at_builtin; refine Stop.un ?_) | (with_reducible refine Stop.conv 32 9 ?_) | (with_reducible refine Stop.conv 9 32 ?_))
  go_loopw [8, 9, 10] (fun i _ _ wr => ∃ (j : Nat) (on : List Bool), j ≤ m ∧ i = .int .i64 (j : Int) ∧ Below w.heap.size w wr ∧ At wr w.heap.size (ocells on).toArray 4 ∧ Hid (OnS on M (fun p => (l.take j).any fun v => hits v M E p))) (fun i _ _ _ => m - (intOf i).toNat)
  case atStart => exact ⟨0, on0, by omega, rfl, b1, zo, Lib.hid (HO0.out.congr (fun p => by simp))⟩
  case round =>
    clear b1 zo HO0
    obtain ⟨j, on, hj, rfl, b1, zo, HO⟩ := hrel
    by_cases hlt : j < m
    · have hjl : j < l.length := by have := HML.out; omega
      obtain ⟨q, o, rfl⟩ := hc.addr (by rw [vcells_length]; omega)
      obtain ⟨x0, x1, x2⟩ := (hc.mono b1 (Nat.le_refl _)).vat hjl
      have hv := HOK.out l[j] (List.getElem_mem _)
      have hst : ∀ p, ((l.take (j + 1)).any fun v => hits v M E p) = (((l.take j).any fun v => hits v M E p) || hits l[j] M E p) := fun p => by rw [List.take_succ_eq_append_getElem hjl, List.any_append]; simp
      generalize l[j] = v at x0 x1 x2 hv hst
      have HPC := Lib.hid (fun w => places_any v M E w hv hE hM hM2)
      have HG := Lib.hid (fun i h => plcs_get v M E i h)
      have HL := Lib.hid (plcs_length v M E)
      have HPL := Lib.hid (fun i => plc_lt v i hM)
      have HST := Lib.hid hst
      generalize plcs v M E = ps at HPC HG HL
      have HV : Hid (∀ p, hits v M E p = (List.range E).any fun i => decide (p = plc v i M)) := Lib.hid (fun p => rfl)
      generalize hpv : plc v = pv at HG HPL HV
      generalize hits v M E = hv2 at HST HV
      obtain ⟨k, n, s⟩ := v
      simp only [V.val] at HPC x0 x1 x2
      clear hst hjl hv hpv
      go_wp2_with (first | (at_make; refine Stop.un ?_) | (at_builtin; refine Stop.un ?_) | (with_reducible refine Stop.conv 32 9 ?_) | (with_reducible refine Stop.conv 9 32 ?_))
      refine (HPC.out _).mono ?_
      rintro e w2 ⟨a2, n2, c2, h2, rfl, o2⟩
      have hn2 : n2 = E := by rw [← h2]; exact HL.out
      subst hn2
      have cs2 := Own.cs o2
      have le2 := owns_le o2.1
      have mx2 := owns_max o2.1
      unfold maxLen at mx2
      have hns : ∀ a, a2 = some a → a.block < w2.heap.size ∧ some a.block ≠ some w.heap.size := fun a ha => by
        have h1 := o2.lt a.block (by subst ha; rfl)
        have h2 := o2.ge a.block (by subst ha; rfl)
        have h3 := zo.lt
        exact ⟨h1, fun e => by have := Option.some.inj e; omega⟩
      replace b1 := b1.next (Own.below o2)
      replace zo := zo.mono (Own.below o2)
      clear h2 o2 x0 x1 x2 HPC
      go_wp2_with (first | (at_make; refine Stop.un ?_) | (at_builtin; refine Stop.un ?_) | (with_reducible refine Stop.conv 32 9 ?_) | (with_reducible refine Stop.conv 9 32 ?_))
      go_loopw [10] (fun i wr => ∃ (u : Nat) (on : List Bool), u ≤ n2 ∧ i = .int .i64 (u : Int) ∧ Below w.heap.size w wr ∧ At wr w.heap.size (ocells on).toArray 4 ∧ Cs wr a2 (icells ps) ∧ Hid (∀ a, a2 = some a → a.block < wr.heap.size ∧ some a.block ≠ some w.heap.size) ∧ Hid (OnS on M (fun p => ((l.take j).any fun v => hits v M n2 p) || (List.range u).any fun i => decide (p = pv i M)))) (fun i _ => n2 - (intOf i).toNat)
      case atStart => exact ⟨0, on, by omega, rfl, b1, zo, cs2, Lib.hid hns, Lib.hid (HO.out.congr (fun p => by simp))⟩
      case round =>
        clear b1 zo cs2 hns HO
        obtain ⟨u, on, hu, rfl, b1, zo, cs2, HNS, HO⟩ := hrel
        by_cases hlt2 : u < n2
        · have hg := HG.out u hlt2
          have hp := HPL.out u
          have HO2 := Lib.hid (HO.out.set (pv u M))
          have hon : on.length = M := HO.out.1
          have HON := Lib.hid hon
          have hp1 : pv u M < on.length := by omega
          obtain ⟨q1, o1, rfl⟩ := cs2.addr (by rw [icells_length, HL.out]; omega)
          have HO3 : Hid (OnS (on.set (pv u M) true) M (fun p => ((l.take j).any fun v => hits v M n2 p) || (List.range (u + 1)).any fun i => decide (p = pv i M))) := Lib.hid (HO2.out.congr (fun p => by rw [List.range_succ, List.any_append, Bool.or_assoc]; simp))
          generalize pv u M = p at hg hp hp1 HO3
          have x0 : wr.cell? ⟨q1, o1 + u, none⟩ = some (.int .i64 (p : Int)) := cs2.at (by simp [icells, hg])
          have f0 := zo.free p
          have x3 : wr.cell? ⟨w.heap.size, p, none⟩ = some (.bool on[p]) := zo.cell p (by simp [ocells, hp1])
          generalize on[p] = ob at x3
          have zl := zo.lt
          have hpp : 0 ≤ (p : Int) := by omega
          clear hon hg HO HO2 hp1
          go_wp2_with (first | (at_make; refine Stop.un ?_) | (at_builtin; refine Stop.un ?_) | (with_reducible refine Stop.conv 32 9 ?_) | (with_reducible refine Stop.conv 9 32 ?_))
          have zo2 := zo.set p (.bool true)
          have e2 : (ocells on).toArray.setIfInBounds p (.bool true) = (ocells (on.set p true)).toArray := by simp [ocells, List.map_set]
          rw [e2] at zo2
          have b2 := b1.setCell (p := ⟨w.heap.size, p, none⟩) (Nat.le_refl _) (.bool true)
          have cs3 : Cs (wr.setCell ⟨w.heap.size, p, none⟩ (.bool true)) (some ⟨q1, o1, none⟩) (icells ps) := cs2.off ⟨w.heap.size, p, none⟩ _ (fun a ha => fun e => (HNS.out a ha).2 (by rw [e]))
          have HNS2 : Hid (∀ a, some (⟨q1, o1, none⟩ : Addr) = some a → a.block < (wr.setCell ⟨w.heap.size, p, none⟩ (.bool true)).heap.size ∧ some a.block ≠ some w.heap.size) := Lib.hid (fun a ha => ⟨by have := (HNS.out a ha).1; simpa [World.setCell] using this, (HNS.out a ha).2⟩)
          clear b1 zo cs2 HNS f0 x0 x3 e2
          go_roundw
          case rel => exact ⟨u + 1, on.set p true, by omega, by go_num, b2, zo2, cs3, HNS2, HO3⟩
          case measure => simp [intOf]; omega
        · have hun : u = n2 := by omega
          have HO3 : Hid (OnS on M (fun p => (l.take (j + 1)).any fun v => hits v M n2 p)) := Lib.hid (HO.out.congr (fun p => by rw [HST.out p, HV.out p, hun]))
          clear HO
          go_wp2_with (first | (at_make; refine Stop.un ?_) | (at_builtin; refine Stop.un ?_) | (with_reducible refine Stop.conv 32 9 ?_) | (with_reducible refine Stop.conv 9 32 ?_))
          go_roundw
          case rel => exact ⟨j + 1, on, by omega, by go_num, b1, zo, HO3⟩
          case measure => simp [intOf]; omega
    · have hjm : j = m := by omega
      have ho := HO.out
      rw [List.take_of_length_le (by have := HML.out; omega)] at ho
      have HO2 := Lib.hid ho
      generalize (fun p => l.any fun v => hits v M E p) = F at HO2 HEND
      obtain ⟨i1, hi, hz0, hz1, hz2⟩ := info_parts Try.infoU8
      have hn : ∃ n : Nat, n = (M + 7) / 8 := ⟨_, rfl⟩
      obtain ⟨n, hn⟩ := hn
      have hn2 : n ≤ 2000 := by omega
      have hmn : ((M : Int) + 7) / 8 = (n : Int) := by omega
      have HN := Lib.hid hn
      have HMN := Lib.hid hmn
      have hob := zo.lt
      clear hn hmn ho HO hlt hj
      subst hjm
      go_wp2_with (first | (at_make; refine Stop.un ?_) | (at_builtin; refine Stop.un ?_) | (with_reducible refine Stop.conv 32 9 ?_) | (with_reducible refine Stop.conv 9 32 ?_))
      refine Stop.mk (wpList_make_full _ rfl _ _ 32 rfl w.heap.size 5 i1 (.int .u8 0) 1 Try.underlying32 hi hz0 hz1 _ _ _ _ n rfl rfl HMN.out HMN.out (by rw [hz2]; omega) (by unfold maxLen; omega) b1.size ?_)
      intro w7 o7 g7
      have b7 : Below wr.heap.size wr w7 := (Below.refl _ _).grown g7 (Nat.le_refl _) (fun _ h => by cases h)
      have zb := own_at o7
      have HZ : Hid (BtS (zeros M) M 0 F) := Lib.hid (BtS.zero M F)
      rw [show (madeCells (Value.int .u8 0).cells (n * 1)).toList = bcells (zeros M) from by simp [zeros, HN.out, bcells, Value.cells, toList_madeCells_one]] at zb
      replace zo := zo.mono b7
      replace b1 := b1.next b7
      have hgw : w.heap.size ≤ wr.heap.size := by omega
      have hne : w.heap.size ≠ wr.heap.size := by omega
      have HL0 : Hid ((zeros M).length = n) := Lib.hid (by rw [zeros_length, HN.out])
      generalize zeros M = bs0 at HZ zb HL0
      generalize wr.heap.size = h at zb hgw hne b7 ⊢
      clear o7 g7 hz2 hz1 hz0 hi i1 b7 hob
      go_wp2_with (first | (at_make; refine Stop.un ?_) | (at_builtin; refine Stop.un ?_) | (with_reducible refine Stop.conv 32 9 ?_) | (with_reducible refine Stop.conv 9 32 ?_))
      go_loopw [12] (fun i wr => ∃ (k : Nat) (bs : List UInt8), k ≤ M ∧ i = .int .i64 (k : Int) ∧ Below w.heap.size w wr ∧ At wr w.heap.size (ocells on).toArray 4 ∧ At wr h (bcells bs).toArray 5 ∧ Hid (BtS bs M k F)) (fun i _ => M - (intOf i).toNat)
      case atStart => exact ⟨0, bs0, by omega, rfl, b1, zo, zb, HZ⟩
      case round =>
        clear b1 zo zb HZ HL0
        obtain ⟨k, bs, hk, rfl, b1, zo, zb, HB⟩ := hrel
        by_cases hlt : k < M
        · have hko : k < on.length := by rw [HO2.out.1]; exact hlt
          have hkf : F k = on[k] := by
            have h1 := HO2.out.2 k hlt
            rw [List.getElem?_eq_getElem hko] at h1
            exact (Option.some.inj h1).symm
          have x0 : wr.cell? ⟨w.heap.size, k, none⟩ = some (.bool on[k]) := zo.cell k (by simp [ocells, hko])
          have hkl : k / 8 < bs.length := by rw [HB.out.1]; omega
          have hkn : k / 8 < n := by rw [HN.out]; omega
          have HPUT := Lib.hid (fun h => HB.out.put (k := k) h hlt)
          have HSKIP := Lib.hid (fun h => HB.out.skip (k := k) h)
          have hlow := HB.out.low hkl
          have hlow2 := add_eq (bs[k / 8]) k hlow
          have hkk : 0 ≤ (k : Int) := by omega
          generalize on[k] = ob at hkf x0
          have HKF := Lib.hid hkf
          clear hkf hko
          cases ob with
          | false =>
            have HB2 := Lib.hid (HSKIP.out HKF.out)
            go_wp2_with (first | (at_make; refine Stop.un ?_) | (at_builtin; refine Stop.un ?_) | (with_reducible refine Stop.conv 32 9 ?_) | (with_reducible refine Stop.conv 9 32 ?_))
            go_roundw
            case rel => exact ⟨k + 1, bs, by omega, by go_num, b1, zo, zb, HB2⟩
            case measure => simp [intOf]; omega
          | true =>
            have HB2 := Lib.hid (HPUT.out HKF.out)
            have x1 : wr.cell? ⟨h, k / 8, none⟩ = some (.int .u8 ((bs[k / 8]).toNat : Int)) := zb.cell (k / 8) (by simp [bcells, hkl])
            have zl := zb.lt
            clear HPUT HSKIP HB HKF
            go_wp2_with (first | (at_make; refine Stop.un ?_) | (at_builtin; refine Stop.un ?_) | (with_reducible refine Stop.conv 32 9 ?_) | (with_reducible refine Stop.conv 9 32 ?_))
            clear x0
            refine mix_startE 14 rfl (by kernel_rfl) ?_
            intro xq hxq
            replace x1 := Ext.cell hxq x1
            replace b1 := Below.next b1 hxq
            replace zo := At.mono zo hxq
            replace zb := At.mono zb hxq
            clear hxq
            refine mix_quiet Keeps.ext 0 rfl (by kernel_rfl) rfl ?_
            intro ι U hne hU
            go_big_quiet_op
            clear hU hne U ι
            show wpAnyM _ _ _ _ _ _ _ _ _
            refine mix_quiet Keeps.ext 1 rfl (by kernel_rfl) rfl ?_
            intro ι U hne hU
            go_big_quiet_op
            clear hU hne U ι
            show wpAnyM _ _ _ _ _ _ _ _ _
            refine mix_quiet Keeps.ext 2 rfl (by kernel_rfl) rfl ?_
            intro ι U hne hU
            go_big_quiet_op
            clear hU hne U ι
            show wpAnyM _ _ _ _ _ _ _ _ _
            refine mix_quiet Keeps.ext 3 rfl (by kernel_rfl) rfl ?_
            intro ι U hne hU
            go_big_quiet_op
            clear hU hne U ι
            show wpAnyM _ _ _ _ _ _ _ _ _
            refine mix_quiet Keeps.ext 4 rfl (by kernel_rfl) rfl ?_
            intro ι U hne hU
            go_big_quiet_op
            clear hU hne U ι
            show wpAnyM _ _ _ _ _ _ _ _ _
            refine mix_quiet Keeps.ext 5 rfl (by kernel_rfl) rfl ?_
            intro ι U hne hU
            go_big_quiet_op
            clear hU hne U ι
            show wpAnyM _ _ _ _ _ _ _ _ _
            refine mix_quiet Keeps.ext 6 rfl (by kernel_rfl) rfl ?_
            intro ι U hne hU
            go_big_quiet_op
            clear hU hne U ι
            show wpAnyM _ _ _ _ _ _ _ _ _
            refine mix_quiet Keeps.ext 7 rfl (by kernel_rfl) rfl ?_
            intro ι U hne hU
            have hcw0 := fun ii => (hU ii).cell x1
            go_big_quiet_op
            clear hU hne hcw0 U ι
            show wpAnyM _ _ _ _ _ _ _ _ _
            refine mix_quiet Keeps.ext 8 rfl (by kernel_rfl) rfl ?_
            intro ι U hne hU
            go_big_quiet_op
            clear hU hne U ι
            show wpAnyM _ _ _ _ _ _ _ _ _
            refine mix_quiet Keeps.ext 9 rfl (by kernel_rfl) rfl ?_
            intro ι U hne hU
            go_big_quiet_op
            clear hU hne U ι
            show wpAnyM _ _ _ _ _ _ _ _ _
            refine mix_quiet Keeps.ext 10 rfl (by kernel_rfl) rfl ?_
            intro ι U hne hU
            go_big_quiet_op
            clear hU hne U ι
            show wpAnyM _ _ _ _ _ _ _ _ _
            refine mix_quiet Keeps.ext 11 rfl (by kernel_rfl) rfl ?_
            intro ι U hne hU
            go_big_quiet_op
            clear hU hne U ι
            show wpAnyM _ _ _ _ _ _ _ _ _
            refine mix_quiet Keeps.ext 12 rfl (by kernel_rfl) rfl ?_
            intro ι U hne hU
            go_big_quiet_op
            clear hU hne U ι
            show wpAnyM _ _ _ _ _ _ _ _ _
            refine mix_last 13 rfl (by kernel_rfl) (by kernel_rfl) rfl ?_
            have f1 := zb.free (k / 8)
            go_wp2_with (first | (at_make; refine Stop.un ?_) | (at_builtin; refine Stop.un ?_) | (with_reducible refine Stop.conv 32 9 ?_) | (with_reducible refine Stop.conv 9 32 ?_))
            refine MixLast.mk ?_
            refine mix_end (by kernel_rfl) ?_
            have zb2 := at_put zb k hkl hlow
            have zo2 := zo.off (p := ⟨h, k / 8, none⟩) hne (.int .u8 (((bs[k / 8]).toNat + 2 ^ (k % 8) : Int) % 256))
            have b2 := b1.setCell (p := ⟨h, k / 8, none⟩) hgw (.int .u8 (((bs[k / 8]).toNat + 2 ^ (k % 8) : Int) % 256))
            clear b1 zo zb x1
            generalize xq.setCell ⟨h, k / 8, none⟩ (.int .u8 (((bs[k / 8]).toNat + 2 ^ (k % 8) : Int) % 256)) = w9 at zb2 zo2 b2 ⊢
            go_wp2_with (first | (at_make; refine Stop.un ?_) | (at_builtin; refine Stop.un ?_) | (with_reducible refine Stop.conv 32 9 ?_) | (with_reducible refine Stop.conv 9 32 ?_))
            go_roundw
            case rel => exact ⟨k + 1, setB bs k, by omega, by go_num, b2, zo2, zb2, HB2⟩
            case measure => simp [intOf]; omega
        · have hkm : k = M := by omega
          have hb := HB.out
          rw [hkm] at hb
          have hall := HEND.out bs hb
          have hbl : bs.length = n := by rw [hb.1, HN.out]
          have HALL := Lib.hid hall
          have HBL := Lib.hid hbl
          clear hall hbl hb
          go_wp2_with (first | (at_make; refine Stop.un ?_) | (at_builtin; refine Stop.un ?_) | (with_reducible refine Stop.conv 32 9 ?_) | (with_reducible refine Stop.conv 9 32 ?_))
          go_ret
          rw [← HALL.out]
          exact ⟨_, n, n, HBL.out, rfl, zb.own b1 hgw n (by rw [bcells_length]; exact HBL.out) (by unfold maxLen; omega)⟩
end Go.Proofs.Ytfakpmikflaofaa
