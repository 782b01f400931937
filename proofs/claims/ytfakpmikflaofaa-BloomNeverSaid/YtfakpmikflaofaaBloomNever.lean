/- BloomNever. -/
import Derived.Test.YtfakpmikflaofaaBloomP
set_option linter.unusedVariables false
set_option linter.unusedSimpArgs false
namespace Go.Proofs.Ytfakpmikflaofaa
open Go.RowKit
theorem At.rx {w w' : World} {B g b : Nat} {cs : Array Value} {t : TypeId} (z : At w g cs t) (h : RX B (some b) w w') (h1 : g < B) (h2 : g ≠ b) : At w' g cs t := (h.block g h1 (by simpa using h2)).trans z
set_option maxRecDepth 100000 in
set_option maxHeartbeats 8000000 in
theorem bloomNever_any (M0 E0 : Nat) (ao : Option Addr) (m cap : Nat) (l : List V) (w : World) (hM : M0 < 65536) (hE : E0 < 256) (hc : Cs w ao (vcells l)) (hm : l.length = m) (hl : m ≤ cap) (hcm : cap ≤ maxLen) (hs : ∀ v ∈ l, v.s.size ≤ maxLen) (hok : ∀ v ∈ l, okV v) :
    Calls Try.prog 5 #[.int .u16 (M0 : Int), .int .u8 (E0 : Int), .slice ao m cap] w (fun e w' => e = .returned (.bool true) ∧ Below w.heap.size w w') := by
  have HF := Lib.hid (fun w hc => few_any ao m cap l w hc hm hl hcm hs)
  have HN := Lib.hid (fun w => new_any (M0 % 8192 + 1) (E0 % 8 + 1) w (by omega) (by omega) (by omega) (by omega))
  have HM := Lib.hid hm
  have HOK := Lib.hid hok
  have hcm' := hcm
  unfold maxLen at hcm'
  clear hm hs hok
  have e1 : ((M0 : Int) % 8192 + 1) = ((M0 % 8192 + 1 : Nat) : Int) := by omega
  have e2 : ((E0 : Int) % 8 + 1) = ((E0 % 8 + 1 : Nat) : Int) := by omega
  have hM1 : 0 < M0 % 8192 + 1 := by omega
  have hM2 : M0 % 8192 + 1 ≤ 8192 := by omega
  have hE1 : 1 ≤ E0 % 8 + 1 := by omega
  have hE2 : E0 % 8 + 1 ≤ 8 := by omega
  rw [← e1, ← e2] at HN
  generalize M0 % 8192 + 1 = M at HN hM1 hM2
  generalize E0 % 8 + 1 = E at HN hE1 hE2
  clear e1 e2
  go_enter Try.func5, Try.ntmps5
  go_wp2_with (first | (at_make; refine Stop.un ?_) | (at_builtin; refine Stop.un ?_) | (with_reducible refine Stop.conv 32 9 ?_) | (with_reducible refine Stop.conv 9 32 ?_))
  refine (shown_any _).mono ?_
  rintro e w1 ⟨rfl, b1⟩
  go_wp2_with (first | (at_make; refine Stop.un ?_) | (at_builtin; refine Stop.un ?_) | (with_reducible refine Stop.conv 32 9 ?_) | (with_reducible refine Stop.conv 9 32 ?_))
  refine (HN.out _).mono ?_
  rintro e w2 ⟨g, b, rfl, hg, hb, hF, b2⟩
  have hF2 := hF
  have hb0 : w.heap.size ≤ b := by have := b1.size; omega
  have hg0 : w.heap.size ≤ g := by have := b1.size; omega
  replace b1 := b1.next b2
  clear b2 hF HN hg hb
  go_wp2_with (first | (at_make; refine Stop.un ?_) | (at_builtin; refine Stop.un ?_) | (with_reducible refine Stop.conv 32 9 ?_) | (with_reducible refine Stop.conv 9 32 ?_))
  refine (HF.out _ (hc.mono b1 (Nat.le_refl _))).mono ?_
  rintro e w3 ⟨f, hf, hf1, rfl, _, b3⟩
  replace hF2 := hF2.mono b3
  replace b1 := b1.next b3
  clear b3 HF
  have hfc : f ≤ cap := by omega
  go_wp2_with (first | (at_make; refine Stop.un ?_) | (at_builtin; refine Stop.un ?_) | (with_reducible refine Stop.conv 32 9 ?_) | (with_reducible refine Stop.conv 9 32 ?_))
  go_loopw [11, 12, 13, 14, 15, 17, 41] (fun _ _ _ _ _ _ i wr => ∃ j : Nat, j ≤ f ∧ i = .int .i64 (j : Int) ∧ Below w.heap.size w wr ∧ Flt wr g b M E (allB (l.take j) M E)) (fun _ _ _ _ _ _ i _ => f - (intOf i).toNat)
  case atStart => exact ⟨0, by omega, rfl, b1, hF2⟩
  case round =>
    clear b1 hF2
    obtain ⟨j, hj, rfl, b1, hF2⟩ := hrel
    by_cases hlt : j < f
    · have hjl : j < l.length := by have := HM.out; omega
      obtain ⟨q, o, rfl⟩ := hc.addr (by rw [vcells_length]; omega)
      obtain ⟨x0, x1, x2⟩ := (hc.mono b1 (Nat.le_refl _)).vat hjl
      have hv := HOK.out l[j] (List.getElem_mem _)
      have hst : allB (l.take (j + 1)) M E = addB (allB (l.take j) M E) l[j] M E := by rw [List.take_succ_eq_append_getElem hjl, allB_snoc]
      have hbl := allB_length (l.take j) M E hM1
      have hbl2 := allB_length (l.take (j + 1)) M E hM1
      have HMA := Lib.hid (fun v hv => may_all (l.take (j + 1)) M E hM1 v hv)
      have HMX := Lib.hid (fun v hv w hF => may_any v M E g b (allB (l.take (j + 1)) M E) w hF hv hE2 hM1 hM2 hbl2)
      have HKE := Lib.hid (fun k (h1 : k < (allB (l.take j) M E).length) (h2 : k < (addB (allB (l.take j) M E) l[j] M E).length) => add_keeps (allB (l.take j) M E) l[j] M E k hM1 hbl h1 h2)
      have HAD := Lib.hid (fun w hF => add_any l[j] M E g b (allB (l.take j) M E) w hF hv hE2 hM1 hM2 hbl)
      have HB1 := Lib.hid (fun w hF => bits_any M E g b (allB (l.take j) M E) w hF (by omega))
      have HB2 := Lib.hid (fun w hF => bits_any M E g b (allB (l.take (j + 1)) M E) w hF (by omega))
      rw [← hst] at HKE HAD
      generalize l[j] = v at x0 x1 x2 hv HKE HAD
      generalize allB (l.take j) M E = was at HKE HAD HB1 hbl hF2
      generalize hnow : allB (l.take (j + 1)) M E = now at HMA HMX HKE HAD HB2 hbl2
      have HNOW := Lib.hid hnow
      clear hnow
      obtain ⟨k, n, s⟩ := v
      simp only [V.val] at HAD x0 x1 x2
      have HBL := Lib.hid hbl
      have HBL2 := Lib.hid hbl2
      have zr := At.new wr #[.int .u8 k, .int .i64 n, .string s] 30
      have bz := (Below.refl wr.heap.size wr).alloc (Nat.le_refl _) (.cells #[.int .u8 k, .int .i64 n, .string s] 30)
      have hbw := hF2.row.lt
      have hzb : wr.heap.size ≠ b := by omega
      clear hst hbl hbl2 hjl hv
      go_wp2_with (first | (at_make; refine Stop.un ?_) | (at_builtin; refine Stop.un ?_) | (with_reducible refine Stop.conv 32 9 ?_) | (with_reducible refine Stop.conv 9 32 ?_))
      refine (HB1.out _ (hF2.mono bz)).mono ?_
      rintro e w4 ⟨a4, n4, c4, h4, rfl, o4⟩
      have hb4 := bz.next (Own.below o4)
      replace zr := zr.mono (Own.below o4)
      replace hF2 := hF2.mono hb4
      have hbb := hF2.row.lt
      have hgw : g < w4.heap.size := hF2.head.lt
      have cs4 := Own.cs o4
      have hns : ∀ a, a4 = some a → a.block < w4.heap.size ∧ some a.block ≠ some b := fun a ha => by
        have h1 := o4.lt a.block (by subst ha; rfl)
        have h2 := o4.ge a.block (by subst ha; rfl)
        have h3 : wr.heap.size < (wr.alloc (.cells #[.int .u8 k, .int .i64 n, .string s] 30)).heap.size := by simp
        exact ⟨h1, fun e => by cases e; omega⟩
      replace b1 := b1.next hb4
      have HN4 : Hid (n4 = (M + 7) / 8) := Lib.hid (by rw [← h4]; exact HBL.out)
      have H4 := Lib.hid h4
      have le4 := owns_le o4.1
      have hzl := zr.lt
      have z0 := zr.cell 0 rfl
      have z1 := zr.cell 1 rfl
      have z2 := zr.cell 2 rfl
      clear h4 o4 x0 x1 x2 hb4 bz
      go_wp2_with (first | (at_make; refine Stop.un ?_) | (at_builtin; refine Stop.un ?_) | (with_reducible refine Stop.conv 32 9 ?_) | (with_reducible refine Stop.conv 9 32 ?_))
      refine (HAD.out _ hF2).mono ?_
      rintro e w5 ⟨rfl, hF3, hX⟩
      replace b1 := b1.trans (hX.below_of b1.size hb0)
      replace cs4 := hX.cs cs4 hns
      clear hF2 hX hns zr z0 z1 z2 hzl HAD HB1 hbb hgw
      go_wp2_with (first | (at_make; refine Stop.un ?_) | (at_builtin; refine Stop.un ?_) | (with_reducible refine Stop.conv 32 9 ?_) | (with_reducible refine Stop.conv 9 32 ?_))
      refine (HB2.out _ hF3).mono ?_
      rintro e w6 ⟨a6, n6, c6, h6, rfl, o6⟩
      have cs6 := Own.cs o6
      have le6 := owns_le o6.1
      have hn6 : n6 = n4 := by rw [← h6, HN4.out]; exact HBL2.out
      subst hn6
      replace b1 := b1.next (Own.below o6)
      replace cs4 := cs4.mono (Own.below o6) (Nat.le_refl _)
      replace hF3 := hF3.mono (Own.below o6)
      have H6 := Lib.hid h6
      have hn9 : n6 ≤ 2000 := by have := HN4.out; omega
      have mx6 := owns_max o6.1
      clear h6 o6 HB2
      go_wp2_with (first | (at_make; refine Stop.un ?_) | (at_builtin; refine Stop.un ?_) | (with_reducible refine Stop.conv 32 9 ?_) | (with_reducible refine Stop.conv 9 32 ?_))
      go_loopw [15, 55] (fun _ i wr => ∃ p : Nat, p ≤ n6 ∧ i = .int .i64 (p : Int) ∧ Below w.heap.size w wr ∧ Flt wr g b M E now ∧ Cs wr a4 (bcells was) ∧ Cs wr a6 (bcells now)) (fun _ i _ => n6 - (intOf i).toNat)
      case atStart => exact ⟨0, by omega, rfl, b1, hF3, cs4, cs6⟩
      case round =>
        clear b1 hF3 cs4 cs6
        obtain ⟨p, hp, rfl, b1, hF3, cs4, cs6⟩ := hrel
        by_cases hlt2 : p < n6
        · have h1 : p < was.length := by have := H4.out; omega
          have h2 : p < now.length := by have := H6.out; omega
          obtain ⟨q4, o4, rfl⟩ := cs4.addr (by rw [bcells_length]; omega)
          obtain ⟨q6, o6, rfl⟩ := cs6.addr (by rw [bcells_length]; omega)
          have x0 := cs4.at (j := p) (u := .int .u8 (was[p].toNat : Int)) (by simp [bcells, h1])
          have y0 := cs6.at (j := p) (u := .int .u8 (now[p].toNat : Int)) (by simp [bcells, h2])
          have hk := HKE.out p h1 h2
          generalize was[p] = c at x0 hk
          generalize now[p] = d at y0 hk
          have hkk : (bits .andNot .u8 (c.toNat : Int) (d.toNat : Int) != 0) = false := by rw [hk]; rfl
          clear hk h1 h2
          go_wp2_with (first | (at_make; refine Stop.un ?_) | (at_builtin; refine Stop.un ?_) | (with_reducible refine Stop.conv 32 9 ?_) | (with_reducible refine Stop.conv 9 32 ?_))
          refine mix_startE 10 rfl (by kernel_rfl) ?_
          intro xq hxq
          replace x0 := Ext.cell hxq x0
          replace y0 := Ext.cell hxq y0
          replace b1 := Below.next b1 hxq
          replace hF3 := Flt.mono hF3 hxq
          replace cs4 := Cs.mono cs4 hxq (Nat.le_refl _)
          replace cs6 := Cs.mono cs6 hxq (Nat.le_refl _)
          clear hxq
          refine mix_quiet Keeps.ext 0 rfl (by kernel_rfl) rfl ?_
          intro ι U hne hU
          go_big_quiet_op
          clear hU hne U ι
          show wpAnyM _ _ _ _ _ _ _ _ _
          refine mix_quiet Keeps.ext 1 rfl (by kernel_rfl) rfl ?_
          intro ι U hne hU
          go_big_quiet_op
          clear hU hne U ι
          show wpAnyM _ _ _ _ _ _ _ _ _
          refine mix_quiet Keeps.ext 2 rfl (by kernel_rfl) rfl ?_
          intro ι U hne hU
          go_big_quiet_op
          clear hU hne U ι
          show wpAnyM _ _ _ _ _ _ _ _ _
          refine mix_quiet Keeps.ext 3 rfl (by kernel_rfl) rfl ?_
          intro ι U hne hU
          have hcw0 := fun ii => (hU ii).cell x0
          have hcw1 := fun ii => (hU ii).cell y0
          go_big_quiet_op
          clear hU hne hcw0 hcw1 U ι
          show wpAnyM _ _ _ _ _ _ _ _ _
          refine mix_quiet Keeps.ext 4 rfl (by kernel_rfl) rfl ?_
          intro ι U hne hU
          go_big_quiet_op
          clear hU hne U ι
          show wpAnyM _ _ _ _ _ _ _ _ _
          refine mix_quiet Keeps.ext 5 rfl (by kernel_rfl) rfl ?_
          intro ι U hne hU
          go_big_quiet_op
          clear hU hne U ι
          show wpAnyM _ _ _ _ _ _ _ _ _
          refine mix_quiet Keeps.ext 6 rfl (by kernel_rfl) rfl ?_
          intro ι U hne hU
          go_big_quiet_op
          clear hU hne U ι
          show wpAnyM _ _ _ _ _ _ _ _ _
          refine mix_quiet Keeps.ext 7 rfl (by kernel_rfl) rfl ?_
          intro ι U hne hU
          have hcw0 := fun ii => (hU ii).cell x0
          have hcw1 := fun ii => (hU ii).cell y0
          go_big_quiet_op
          clear hU hne hcw0 hcw1 U ι
          show wpAnyM _ _ _ _ _ _ _ _ _
          refine mix_quiet Keeps.ext 8 rfl (by kernel_rfl) rfl ?_
          intro ι U hne hU
          go_big_quiet_op
          clear hU hne U ι
          show wpAnyM _ _ _ _ _ _ _ _ _
          refine mix_quiet Keeps.ext 9 rfl (by kernel_rfl) rfl ?_
          intro ι U hne hU
          go_big_quiet_op
          clear hU hne U ι
          show wpAnyM _ _ _ _ _ _ _ _ _
          refine mix_end (by kernel_rfl) ?_
          go_wp2_with (first | (at_make; refine Stop.un ?_) | (at_builtin; refine Stop.un ?_) | (with_reducible refine Stop.conv 32 9 ?_) | (with_reducible refine Stop.conv 9 32 ?_))
          go_roundw
          case rel => exact ⟨p + 1, by omega, by go_num, b1, hF3, cs4, cs6⟩
          case measure => simp [intOf]; omega
        · clear cs4 cs6
          have hjc : j + 1 ≤ cap := by omega
          go_wp2_with (first | (at_make; refine Stop.un ?_) | (at_builtin; refine Stop.un ?_) | (with_reducible refine Stop.conv 32 9 ?_) | (with_reducible refine Stop.conv 9 32 ?_))
          go_loopw [17, 74] (fun _ i wr => ∃ p : Nat, p ≤ j + 1 ∧ i = .int .i64 (p : Int) ∧ Below w.heap.size w wr ∧ Flt wr g b M E now) (fun _ i _ => j + 1 - (intOf i).toNat)
          case atStart => exact ⟨0, by omega, rfl, b1, hF3⟩
          case round =>
            clear b1 hF3
            obtain ⟨u, hu, rfl, b1, hF3⟩ := hrel
            by_cases hlt3 : u < j + 1
            · have hul : u < l.length := by have := HM.out; omega
              obtain ⟨y0, y1, y2⟩ := (hc.mono b1 (Nat.le_refl _)).vat hul
              have hv := HOK.out l[u] (List.getElem_mem _)
              have hmem : l[u] ∈ l.take (j + 1) := List.mem_take_iff_getElem.2 ⟨u, by omega, rfl⟩
              have hma := HMA.out l[u] hmem
              have hmx := fun w hF => HMX.out l[u] hv w hF
              rw [hma] at hmx
              generalize l[u] = v at y0 y1 y2 hmx
              obtain ⟨k', n', s'⟩ := v
              simp only [V.val] at hmx y0 y1 y2
              have HX := Lib.hid hmx
              clear hmx hma hmem hv hul
              have bz := (Below.refl wr.heap.size wr).alloc (Nat.le_refl _) (.cells #[.int .u8 k', .int .i64 n', .string s'] 30)
              go_wp2_with (first | (at_make; refine Stop.un ?_) | (at_builtin; refine Stop.un ?_) | (with_reducible refine Stop.conv 32 9 ?_) | (with_reducible refine Stop.conv 9 32 ?_))
              refine (HX.out _ (hF3.mono bz)).mono ?_
              rintro e w7 ⟨rfl, b7⟩
              replace hF3 := hF3.mono (bz.next b7)
              replace b1 := b1.next (bz.next b7)
              clear bz b7 y0 y1 y2 HX
              go_wp2_with (first | (at_make; refine Stop.un ?_) | (at_builtin; refine Stop.un ?_) | (with_reducible refine Stop.conv 32 9 ?_) | (with_reducible refine Stop.conv 9 32 ?_))
              go_roundw
              case rel => exact ⟨u + 1, by omega, by go_num, b1, hF3⟩
              case measure => simp [intOf]; omega
            · have huj : u = j + 1 := by omega
              subst huj
              go_wp2_with (first | (at_make; refine Stop.un ?_) | (at_builtin; refine Stop.un ?_) | (with_reducible refine Stop.conv 32 9 ?_) | (with_reducible refine Stop.conv 9 32 ?_))
              go_roundw
              case rel => exact ⟨j + 1, by omega, by go_num, b1, by rw [HNOW.out]; exact hF3⟩
              case measure => simp [intOf]; omega
    · go_wp2_with (first | (at_make; refine Stop.un ?_) | (at_builtin; refine Stop.un ?_) | (with_reducible refine Stop.conv 32 9 ?_) | (with_reducible refine Stop.conv 9 32 ?_))
      go_ret
      exact ⟨rfl, b1⟩
end Go.Proofs.Ytfakpmikflaofaa
