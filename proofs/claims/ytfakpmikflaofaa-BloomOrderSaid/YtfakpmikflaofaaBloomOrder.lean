/- BloomOrder. -/
import Derived.Test.YtfakpmikflaofaaBloomP
import Derived.Test.YtfakpmikflaofaaVOwn
set_option linter.unusedVariables false
set_option linter.unusedSimpArgs false
namespace Go.Proofs.Ytfakpmikflaofaa
open Go.RowKit
theorem vcut' {w : World} {ao : Option Addr} {l : List V} (h : Cs w ao (vcells l)) (f : Nat) : Cs w ao (vcells (l.take f)) := by
  rw [← vcells_take]; exact h.take _
theorem exec_dropV {ρ : Operand → Value} {x lo : Operand} {dst : Option Tmp} {ty : TypeId} {pos : String} {af : Array Edge} {g : Option (Nat × Bool)} (ao : Option Addr) (n cap k : Nat) (hx : ρ x = .slice ao n cap) (hlo : ρ lo = .int .i64 (k : Int)) (hk : k ≤ n) (hn : n ≤ cap) (w : World) :
    (execOp ρ ⟨dst, .slice 22 x (some lo) none none, ty, pos, af, g⟩).run Try.prog w = .ok (.value (.slice (if cap = k then ao else ao.map fun x => x.add (k * 3)) (n - k) (cap - k))) w := by
  have h1 : (k : Int) ≤ (n : Int) := by omega
  have h2 : (n : Int) ≤ (cap : Int) := by omega
  have h3 : 0 ≤ (k : Int) := by omega
  simp [execOp, hx, hlo, go_sem, hk, hn, h1, h2, h3]
theorem exec_takeV {ρ : Operand → Value} {x hi : Operand} {dst : Option Tmp} {ty : TypeId} {pos : String} {af : Array Edge} {g : Option (Nat × Bool)} (ao : Option Addr) (n cap k : Nat) (hx : ρ x = .slice ao n cap) (hhi : ρ hi = .int .i64 (k : Int)) (hk : k ≤ n) (hn : n ≤ cap) (w : World) :
    (execOp ρ ⟨dst, .slice 22 x none (some hi) none, ty, pos, af, g⟩).run Try.prog w = .ok (.value (.slice ao k cap)) w := by
  have h1 : (k : Int) ≤ (cap : Int) := by omega
  have h3 : 0 ≤ (k : Int) := by omega
  have h4 : k ≤ cap := by omega
  simp [execOp, hx, hhi, go_sem, h1, h3, h4]
theorem vdrop {w : World} {ao : Option Addr} {l : List V} (h : Cs w ao (vcells l)) (k c : Nat) (hc : l.length ≤ c) : Cs w (if c = k then ao else ao.map fun x => x.add (k * 3)) (vcells (l.drop k)) := by
  rw [← vcells_drop]
  by_cases e : c = k
  · rw [if_pos e, List.drop_of_length_le (by rw [vcells_length]; omega)]; exact Cs.nil _ _
  · rw [if_neg e]; exact h.dropMap (k * 3)
theorem mem_turned (x : List V) (k : Nat) (v : V) : v ∈ x ↔ v ∈ x.drop k ++ x.take k ++ x.drop k := by
  have h : v ∈ x ↔ v ∈ x.take k ++ x.drop k := by rw [List.take_append_drop]
  rw [h]
  simp only [List.mem_append]
  constructor
  · rintro (h | h)
    · exact .inl (.inr h)
    · exact .inr h
  · rintro ((h | h) | h)
    · exact .inr h
    · exact .inl h
    · exact .inr h
set_option maxRecDepth 100000 in
set_option maxHeartbeats 16000000 in
theorem bloomOrder_any (M0 E0 A0 : Nat) (ao : Option Addr) (m cap : Nat) (l : List V) (w : World) (hM : M0 < 65536) (hE : E0 < 256) (hA : A0 < 256) (hc : Cs w ao (vcells l)) (hm : l.length = m) (hl : m ≤ cap) (hcm : cap ≤ maxLen) (hs : ∀ v ∈ l, v.s.size ≤ maxLen) (hok : ∀ v ∈ l, okV v) :
    Calls Try.prog 6 #[.int .u16 (M0 : Int), .int .u8 (E0 : Int), .slice ao m cap, .int .u8 (A0 : Int)] w (fun e w' => e = .returned (.bool true) ∧ Below w.heap.size w w') := by
  have HF := Lib.hid (fun w hc => few_any ao m cap l w hc hm hl hcm hs)
  have HN := Lib.hid (fun w => new_any (M0 % 8192 + 1) (E0 % 8 + 1) w (by omega) (by omega) (by omega) (by omega))
  have HM := Lib.hid hm
  have HOK := Lib.hid hok
  have hcm' := hcm
  unfold maxLen at hcm'
  clear hm hs hok
  have e1 : ((M0 : Int) % 8192 + 1) = ((M0 % 8192 + 1 : Nat) : Int) := by omega
  have e2 : ((E0 : Int) % 8 + 1) = ((E0 % 8 + 1 : Nat) : Int) := by omega
  have hM1 : 0 < M0 % 8192 + 1 := by omega
  have hM2 : M0 % 8192 + 1 ≤ 8192 := by omega
  have hE1 : 1 ≤ E0 % 8 + 1 := by omega
  have hE2 : E0 % 8 + 1 ≤ 8 := by omega
  rw [← e1, ← e2] at HN
  generalize M0 % 8192 + 1 = M at HN hM1 hM2
  generalize E0 % 8 + 1 = E at HN hE1 hE2
  clear e1 e2
  go_enter Try.func6, Try.ntmps6
  go_wp2_with (first | (at_make; refine Stop.un ?_) | (at_builtin; refine Stop.un ?_) | (with_reducible refine Stop.conv 32 9 ?_) | (with_reducible refine Stop.conv 9 32 ?_))
  refine (shown_any _).mono ?_
  rintro e w1 ⟨rfl, b1⟩
  go_wp2_with (first | (at_make; refine Stop.un ?_) | (at_builtin; refine Stop.un ?_) | (with_reducible refine Stop.conv 32 9 ?_) | (with_reducible refine Stop.conv 9 32 ?_))
  refine (HN.out _).mono ?_
  rintro e w2 ⟨g, b, rfl, hg, hb, hF, b2⟩
  have hF2 := hF
  have hb0 : w.heap.size ≤ b := by have := b1.size; omega
  have hg0 : w.heap.size ≤ g := by have := b1.size; omega
  have hgl := hF2.head.lt
  have hbl := hF2.row.lt
  replace b1 := b1.next b2
  clear b2 hF hg hb
  go_wp2_with (first | (at_make; refine Stop.un ?_) | (at_builtin; refine Stop.un ?_) | (with_reducible refine Stop.conv 32 9 ?_) | (with_reducible refine Stop.conv 9 32 ?_))
  refine (HN.out _).mono ?_
  rintro e w3 ⟨g', b', rfl, hg', hb', hG, b3⟩
  have hG2 := hG
  have hb0' : w.heap.size ≤ b' := by have := b1.size; omega
  have hne1 : g' ≠ b := by omega
  have hne2 : b' ≠ b := by omega
  have hne3 : g ≠ b' := by omega
  have hne4 : b ≠ b' := by omega
  replace hF2 := hF2.mono b3
  replace b1 := b1.next b3
  clear b3 hG hg' hb' hgl hbl HN
  go_wp2_with (first | (at_make; refine Stop.un ?_) | (at_builtin; refine Stop.un ?_) | (with_reducible refine Stop.conv 32 9 ?_) | (with_reducible refine Stop.conv 9 32 ?_))
  refine (HF.out _ (hc.mono b1 (Nat.le_refl _))).mono ?_
  rintro e w4 ⟨f, hf, hf1, rfl, _, b4⟩
  replace hF2 := hF2.mono b4
  replace hG2 := hG2.mono b4
  replace b1 := b1.next b4
  clear b4 HF
  have hfc : f ≤ cap := by omega
  have hk0 : ((A0 : Int) % ((f : Int) + 1)) = ((A0 % (f + 1) : Nat) : Int) := by rw [Int.natCast_emod]; rfl
  have hkf : A0 % (f + 1) ≤ f := by have := Nat.mod_lt A0 (by omega : 0 < f + 1); omega
  have HK0 := Lib.hid hk0
  have hfn : (f : Int) + 1 ≠ 0 := by omega
  clear hk0
  generalize A0 % (f + 1) = kk at HK0 hkf
  go_wp2_with (first | (at_make; refine Stop.un ?_) | (at_builtin; refine Stop.un ?_) | (with_reducible refine Stop.conv 32 9 ?_) | (with_reducible refine Stop.conv 9 32 ?_))
  rw [HK0.out]
  clear HK0
  have hlf : (l.take f).length = f := by rw [List.length_take]; have := HM.out; omega
  have HLF := Lib.hid hlf
  clear hlf
  go_loopw [19, 67] (fun _ i wr => ∃ j : Nat, j ≤ f ∧ i = .int .i64 (j : Int) ∧ Below w.heap.size w wr ∧ Flt wr g b M E (allB (l.take j) M E) ∧ Flt wr g' b' M E (zeros M)) (fun _ i _ => f - (intOf i).toNat)
  case atStart => exact ⟨0, by omega, rfl, b1, hF2, hG2⟩
  case round =>
    clear b1 hF2 hG2
    obtain ⟨j, hj, rfl, b1, hF2, hG2⟩ := hrel
    by_cases hlt : j < f
    · have hjl : j < l.length := by have := HM.out; omega
      obtain ⟨q, o, rfl⟩ := hc.addr (by rw [vcells_length]; omega)
      obtain ⟨x0, x1, x2⟩ := (hc.mono b1 (Nat.le_refl _)).vat hjl
      have hv := HOK.out l[j] (List.getElem_mem _)
      have hst : allB (l.take (j + 1)) M E = addB (allB (l.take j) M E) l[j] M E := by rw [List.take_succ_eq_append_getElem hjl, allB_snoc]
      have hbl := allB_length (l.take j) M E hM1
      have HAD := Lib.hid (fun w hF => add_any l[j] M E g b (allB (l.take j) M E) w hF hv hE2 hM1 hM2 hbl)
      rw [← hst] at HAD
      generalize l[j] = v at x0 x1 x2 HAD
      obtain ⟨k, n, s⟩ := v
      simp only [V.val] at HAD x0 x1 x2
      have bz := (Below.refl wr.heap.size wr).alloc (Nat.le_refl _) (.cells #[.int .u8 k, .int .i64 n, .string s] 30)
      clear hst hbl hjl hv
      go_wp2_with (first | (at_make; refine Stop.un ?_) | (at_builtin; refine Stop.un ?_) | (with_reducible refine Stop.conv 32 9 ?_) | (with_reducible refine Stop.conv 9 32 ?_))
      have hF3 := hF2.mono bz
      have hG3 := hG2.mono bz
      replace b1 := b1.next bz
      have h1 := hG3.head.lt
      have h2 := hG3.row.lt
      clear hF2 hG2 bz x0 x1 x2
      refine (HAD.out _ hF3).mono ?_
      rintro e w5 ⟨rfl, hF4, hX⟩
      have hG4 := RX.flt hG3 hX h1 h2 hne1 hne2
      replace b1 := b1.trans (hX.below_of b1.size hb0)
      clear hF3 hG3 hX h1 h2 HAD
      go_wp2_with (first | (at_make; refine Stop.un ?_) | (at_builtin; refine Stop.un ?_) | (with_reducible refine Stop.conv 32 9 ?_) | (with_reducible refine Stop.conv 9 32 ?_))
      go_roundw
      case rel => exact ⟨j + 1, by omega, by go_num, b1, hF4, hG4⟩
      case measure => simp [intOf]; omega
    · have hjf : j = f := by omega
      subst hjf
      clear hlt hj
      have hcx := vcut' hc j
      generalize hx : l.take j = x at hcx hF2 HLF
      have HXO : Hid (∀ v ∈ x, okV v) := Lib.hid (fun v hv => HOK.out v (List.mem_of_mem_take (by rw [hx]; exact hv)))
      clear hx HOK HM
      have hxl : x.length ≤ cap := by have := HLF.out; omega
      go_wp2_with (first | (at_make; refine Stop.un ?_) | (at_builtin; refine Stop.un ?_) | (with_reducible refine Stop.conv 32 9 ?_) | (with_reducible refine Stop.conv 9 32 ?_))
      have HSZ : Hid (wr.heap.size ≤ wr.heap.size) := Lib.hid (Nat.le_refl _)
      have hcx1 := hcx.mono b1 (Nat.le_refl _)
      have hbF := hF2.row.lt
      have hbG := hG2.row.lt
      refine mix_startX (wr.heap.size) none 15 rfl (by kernel_rfl) ?_
      intro xq hxq
      replace hcx1 := Cs.mono hcx1 hxq (Nat.le_refl _)
      replace hF2 := Flt.mono hF2 hxq
      replace hG2 := Flt.mono hG2 hxq
      replace b1 := Below.next b1 hxq
      replace HSZ := Lib.hid (Nat.le_trans (Hid.out HSZ) (Below.size hxq))
      clear hxq
      refine mix_quiet (Keeps.rx (wr.heap.size) none) 1 rfl (by kernel_rfl) rfl ?_
      intro ι U hne hU
      go_big_quiet_op
      clear hU hne U ι
      show wpAnyM _ _ _ _ _ _ _ _ _
      refine mix_quiet (Keeps.rx (wr.heap.size) none) 2 rfl (by kernel_rfl) rfl ?_
      intro ι U hne hU
      go_big_quiet_op
      clear hU hne U ι
      show wpAnyM _ _ _ _ _ _ _ _ _
      refine mix_quiet (Keeps.rx (wr.heap.size) none) 3 rfl (by kernel_rfl) rfl ?_
      intro ι U hne hU
      refine quiet_as _ (exec_dropV ao j cap kk rfl rfl hkf hfc) (hne.elim fun ii => ⟨_, ii, rfl⟩) ?_
      go_big_quiet_op
      clear hU hne U ι
      show wpAnyM _ _ _ _ _ _ _ _ _
      have hd := vdrop hcx1 kk cap hxl
      have hdl : (x.drop kk).length = j - kk := by rw [List.length_drop, HLF.out]
      have HDL := Lib.hid hdl
      clear hdl
      generalize hao : (if cap = kk then ao else ao.map fun x => x.add (kk * 3)) = a2 at hd ⊢
      have HAO := Lib.hid hao
      clear hao
      refine mix_quiet (Keeps.rx (wr.heap.size) none) 5 rfl (by kernel_rfl) rfl ?_
      intro ι U hne hU
      go_big_quiet_op
      clear hU hne U ι
      show wpAnyM _ _ _ _ _ _ _ _ _
      refine mix_quiet (Keeps.rx (wr.heap.size) none) 6 rfl (by kernel_rfl) rfl ?_
      intro ι U hne hU
      go_big_quiet_op
      clear hU hne U ι
      show wpAnyM _ _ _ _ _ _ _ _ _
      refine mix_quiet (Keeps.rx (wr.heap.size) none) 7 rfl (by kernel_rfl) rfl ?_
      intro ι U hne hU
      refine quiet_as _ (exec_takeV ao j cap kk rfl rfl hkf hfc) (hne.elim fun ii => ⟨_, ii, rfl⟩) ?_
      go_big_quiet_op
      clear hU hne U ι
      show wpAnyM _ _ _ _ _ _ _ _ _
      have ht := vcut' hcx1 kk
      have htl : (x.take kk).length = kk := by rw [List.length_take, HLF.out]; omega
      have HTL := Lib.hid htl
      clear htl
      refine mix_quiet (Keeps.rx (wr.heap.size) none) 9 rfl (by kernel_rfl) rfl ?_
      intro ι U hne hU
      go_big_quiet_op
      clear hU hne U ι
      show wpAnyM _ _ _ _ _ _ _ _ _
      refine mix_quiet (Keeps.rx (wr.heap.size) none) 10 rfl (by kernel_rfl) rfl ?_
      intro ι U hne hU
      go_big_quiet_op
      clear hU hne U ι
      show wpAnyM _ _ _ _ _ _ _ _ _
      refine mix_quiet (Keeps.rx (wr.heap.size) none) 11 rfl (by kernel_rfl) rfl ?_
      intro ι U hne hU
      refine quiet_as _ (exec_dropV ao j cap kk rfl rfl hkf hfc) (hne.elim fun ii => ⟨_, ii, rfl⟩) ?_
      go_big_quiet_op
      clear hU hne U ι
      show wpAnyM _ _ _ _ _ _ _ _ _
      rw [HAO.out]
      refine mix_quiet (Keeps.rx (wr.heap.size) none) 14 rfl (by kernel_rfl) rfl ?_
      intro ι U hne hU
      go_big_quiet_op
      clear hU hne U ι
      show wpAnyM _ _ _ _ _ _ _ _ _
      refine mix_any 0 rfl (by kernel_rfl) rfl ?_
      go_wp2_with (first | (at_make; refine Stop.un ?_) | (at_builtin; refine Stop.un ?_) | (with_reducible refine Stop.conv 32 9 ?_) | (with_reducible refine Stop.conv 9 32 ?_))
      have O0 : OwnV xq (xq.alloc (.cells #[] 30)) (.slice (some ⟨xq.heap.size, 0, none⟩) 0 0) 0 [] := Own.block (Below.refl _ _) (by simp) (by simp)
      refine MixPost.mk (RX.ext ((Below.refl xq.heap.size xq).alloc (Nat.le_refl _) _) (Hid.out HSZ)) ?_
      refine mix_any 4 rfl (by kernel_rfl) rfl ?_
      go_wp2_with (first | (at_make; refine Stop.un ?_) | (at_builtin; refine Stop.un ?_) | (with_reducible refine Stop.conv 32 9 ?_) | (with_reducible refine Stop.conv 9 32 ?_))
      refine Stop.mk (app_vs xq _ _ rfl rfl O0 rfl rfl HDL.out (hd.mono (Own.below O0) (Nat.le_refl _)) (by omega) ?_)
      intro a4 c4 w5 O1 g4 _
      simp only [Nat.zero_add, List.nil_append] at O1
      go_wp2_with (first | (at_make; refine Stop.un ?_) | (at_builtin; refine Stop.un ?_) | (with_reducible refine Stop.conv 32 9 ?_) | (with_reducible refine Stop.conv 9 32 ?_))
      refine MixPost.mk (RX.grown g4 (by have := HSZ.out; have := (Own.below O0).size; omega) (fun k hk => .inl (by have := HSZ.out; have := O0.ge k hk; omega))) ?_
      clear g4 O0
      refine mix_any 8 rfl (by kernel_rfl) rfl ?_
      go_wp2_with (first | (at_make; refine Stop.un ?_) | (at_builtin; refine Stop.un ?_) | (with_reducible refine Stop.conv 32 9 ?_) | (with_reducible refine Stop.conv 9 32 ?_))
      refine Stop.mk (app_vs xq _ _ rfl rfl O1 rfl rfl HTL.out (ht.mono (Own.below O1) (Nat.le_refl _)) (by omega) ?_)
      intro a8 c8 w6 O2 g8 _
      rw [Nat.sub_add_cancel hkf] at O2
      go_wp2_with (first | (at_make; refine Stop.un ?_) | (at_builtin; refine Stop.un ?_) | (with_reducible refine Stop.conv 32 9 ?_) | (with_reducible refine Stop.conv 9 32 ?_))
      refine MixPost.mk (RX.grown g8 (by have := HSZ.out; have := (Own.below O1).size; omega) (fun k hk => .inl (by have := HSZ.out; have := O1.ge k hk; omega))) ?_
      clear g8 O1
      refine mix_any 12 rfl (by kernel_rfl) rfl ?_
      go_wp2_with (first | (at_make; refine Stop.un ?_) | (at_builtin; refine Stop.un ?_) | (with_reducible refine Stop.conv 32 9 ?_) | (with_reducible refine Stop.conv 9 32 ?_))
      refine Stop.mk (app_vs xq _ _ rfl rfl O2 rfl rfl HDL.out (hd.mono (Own.below O2) (Nat.le_refl _)) (by omega) ?_)
      intro a12 c12 w7 O3 g12 _
      go_wp2_with (first | (at_make; refine Stop.un ?_) | (at_builtin; refine Stop.un ?_) | (with_reducible refine Stop.conv 32 9 ?_) | (with_reducible refine Stop.conv 9 32 ?_))
      refine MixPost.mk (RX.grown g12 (by have := HSZ.out; have := (Own.below O2).size; omega) (fun k hk => .inl (by have := HSZ.out; have := O2.ge k hk; omega))) ?_
      clear g12 O2
      refine mix_quiet (Keeps.rx (wr.heap.size) none) 13 rfl (by kernel_rfl) rfl ?_
      intro ι U hne hU
      go_big_quiet_op
      clear hU hne U ι
      show wpAnyM _ _ _ _ _ _ _ _ _
      refine mix_end (by kernel_rfl) ?_
      have hb7 := Own.below O3
      have HFL2 := hF2.mono hb7
      have HGL2 := hG2.mono hb7
      have b2 := b1.next hb7
      have cs7 := Own.cs O3
      have le7 := owns_le O3.1
      have mx7 := owns_max O3.1
      unfold maxLen at mx7
      have HL7 := Lib.hid (OwnV.length O3)
      have hns : ∀ a, a12 = some a → a.block < w7.heap.size ∧ some a.block ≠ some b' := fun a ha => by
        have h1 := O3.lt a.block (by subst ha; rfl)
        have h2 := O3.ge a.block (by subst ha; rfl)
        have h3 := hG2.row.lt
        exact ⟨h1, fun e => by cases e; omega⟩
      have HIN : Hid (∀ v, v ∈ x ↔ v ∈ x.drop kk ++ x.take kk ++ x.drop kk) := Lib.hid (fun v => mem_turned x kk v)
      have hgb : g < xq.heap.size ∧ b < xq.heap.size := ⟨hF2.head.lt, hF2.row.lt⟩
      have hgs : g < w7.heap.size ∧ b < w7.heap.size := ⟨HFL2.head.lt, HFL2.row.lt⟩
      clear hF2 hG2 b1 O3 hb7 hd ht HAO HDL HTL hcx1 HSZ hgb
      generalize x.drop kk ++ x.take kk ++ x.drop kk = y at cs7 HL7 HIN
      have hn7 : j + (j - kk) ≤ 300 := by omega
      obtain ⟨n7, h7⟩ : ∃ n7, j + (j - kk) = n7 := ⟨_, rfl⟩
      rw [h7] at HL7 le7 hn7
      try rw [h7]
      try rw [show ((j : Int) + ((j - kk : Nat) : Int)) = (n7 : Int) from by omega]
      try rw [show ((j : Int) + ((j : Int) - (kk : Int))) = (n7 : Int) from by omega]
      clear h7
      go_wp2_with (first | (at_make; refine Stop.un ?_) | (at_builtin; refine Stop.un ?_) | (with_reducible refine Stop.conv 32 9 ?_) | (with_reducible refine Stop.conv 9 32 ?_))
      go_loopw [21, 89] (fun _ i wr => ∃ u : Nat, u ≤ n7 ∧ i = .int .i64 (u : Int) ∧ Below w.heap.size w wr ∧ Flt wr g b M E (allB x M E) ∧ Flt wr g' b' M E (allB (y.take u) M E) ∧ Cs wr a12 (vcells y) ∧ Hid (∀ a, a12 = some a → a.block < wr.heap.size ∧ some a.block ≠ some b')) (fun _ i _ => n7 - (intOf i).toNat)
      case atStart => exact ⟨0, by omega, rfl, b2, HFL2, HGL2, cs7, Lib.hid hns⟩
      case round =>
        clear b2 HFL2 HGL2 cs7 hns hgs
        obtain ⟨u, hu, rfl, b1, hF2, hG2, cs7, HNS⟩ := hrel
        by_cases hlt : u < n7
        ·
          have hul : u < y.length := by have := HL7.out; omega
          obtain ⟨q, o, rfl⟩ := cs7.addr (by rw [vcells_length]; omega)
          obtain ⟨x0, x1, x2⟩ := cs7.vat hul
          have hv := HXO.out y[u] ((HIN.out _).2 (List.getElem_mem _))
          have hst : allB (y.take (u + 1)) M E = addB (allB (y.take u) M E) y[u] M E := by rw [List.take_succ_eq_append_getElem hul, allB_snoc]
          have hbl := allB_length (y.take u) M E hM1
          have HAD := Lib.hid (fun w hF => add_any y[u] M E g' b' (allB (y.take u) M E) w hF hv hE2 hM1 hM2 hbl)
          rw [← hst] at HAD
          generalize y[u] = v at x0 x1 x2 HAD
          obtain ⟨k, n, s⟩ := v
          simp only [V.val] at HAD x0 x1 x2
          have bz := (Below.refl wr.heap.size wr).alloc (Nat.le_refl _) (.cells #[.int .u8 k, .int .i64 n, .string s] 30)
          clear hst hbl hul hv
          go_wp2_with (first | (at_make; refine Stop.un ?_) | (at_builtin; refine Stop.un ?_) | (with_reducible refine Stop.conv 32 9 ?_) | (with_reducible refine Stop.conv 9 32 ?_))
          have hF3 := hF2.mono bz
          have hG3 := hG2.mono bz
          have cs8 := cs7.mono bz (Nat.le_refl _)
          have hns2 : ∀ a, some (⟨q, o, none⟩ : Addr) = some a → a.block < (wr.alloc (.cells #[.int .u8 k, .int .i64 n, .string s] 30)).heap.size ∧ some a.block ≠ some b' := fun a ha => ⟨by have := (HNS.out a ha).1; simp; omega, (HNS.out a ha).2⟩
          replace b1 := b1.next bz
          have h1 := hF3.head.lt
          have h2 := hF3.row.lt
          clear hF2 hG2 bz x0 x1 x2 cs7
          refine (HAD.out _ hG3).mono ?_
          rintro e w9 ⟨rfl, hG4, hX⟩
          have hF4 := RX.flt hF3 hX h1 h2 hne3 hne4
          have cs9 := hX.cs cs8 hns2
          have HNS2 : Hid (∀ a, some (⟨q, o, none⟩ : Addr) = some a → a.block < w9.heap.size ∧ some a.block ≠ some b') := Lib.hid (fun a ha => ⟨by have := (hns2 a ha).1; have := hX.size; omega, (hns2 a ha).2⟩)
          replace b1 := b1.trans (hX.below_of b1.size hb0')
          clear hF3 hG3 hX h1 h2 HAD cs8 hns2 HNS
          go_wp2_with (first | (at_make; refine Stop.un ?_) | (at_builtin; refine Stop.un ?_) | (with_reducible refine Stop.conv 32 9 ?_) | (with_reducible refine Stop.conv 9 32 ?_))
          go_roundw
          case rel => exact ⟨u + 1, by omega, by go_num, b1, hF4, hG4, cs9, HNS2⟩
          case measure => simp [intOf]; omega
        ·
          have hun : u = n7 := by omega
          rw [List.take_of_length_le (by have := HL7.out; omega), ← all_order x y M E hM1 HIN.out] at hG2
          have hal := allB_length x M E hM1
          have HB1 := Lib.hid (fun w hF => bits_any M E g b (allB x M E) w hF (by omega))
          have HB2 := Lib.hid (fun w hF => bits_any M E g' b' (allB x M E) w hF (by omega))
          generalize allB x M E = bs at hF2 hG2 HB1 HB2 hal
          clear hal cs7 HNS HL7 HIN
          subst hun
          go_wp2_with (first | (at_make; refine Stop.un ?_) | (at_builtin; refine Stop.un ?_) | (with_reducible refine Stop.conv 32 9 ?_) | (with_reducible refine Stop.conv 9 32 ?_))
          have hq : ((strOf bs).toList == (strOf bs).toList) = true := by simp
          refine mix_startE 11 rfl (by kernel_rfl) ?_
          intro xq hxq
          replace hF2 := Flt.mono hF2 hxq
          replace hG2 := Flt.mono hG2 hxq
          replace b1 := Below.next b1 hxq
          clear hxq
          refine mix_quiet Keeps.ext 0 rfl (by kernel_rfl) rfl ?_
          intro ι U hne hU
          go_big_quiet_op
          clear hU hne U ι
          show wpAnyM _ _ _ _ _ _ _ _ _
          refine mix_quiet Keeps.ext 1 rfl (by kernel_rfl) rfl ?_
          intro ι U hne hU
          go_big_quiet_op
          clear hU hne U ι
          show wpAnyM _ _ _ _ _ _ _ _ _
          refine mix_quiet Keeps.ext 2 rfl (by kernel_rfl) rfl ?_
          intro ι U hne hU
          go_big_quiet_op
          clear hU hne U ι
          show wpAnyM _ _ _ _ _ _ _ _ _
          refine mix_quiet Keeps.ext 5 rfl (by kernel_rfl) rfl ?_
          intro ι U hne hU
          go_big_quiet_op
          clear hU hne U ι
          show wpAnyM _ _ _ _ _ _ _ _ _
          refine mix_any 3 rfl (by kernel_rfl) rfl ?_
          go_wp2_with (first | (at_make; refine Stop.un ?_) | (at_builtin; refine Stop.un ?_) | (with_reducible refine Stop.conv 32 9 ?_) | (with_reducible refine Stop.conv 9 32 ?_))
          refine (HB1.out _ hF2).mono ?_
          rintro e w9 ⟨a9, n9, c9, h9, rfl, o9⟩
          have hb9 := Own.below o9
          have cs9 := Own.cs o9
          have H9 := Lib.hid h9
          clear h9 o9
          go_wp2_with (first | (at_make; refine Stop.un ?_) | (at_builtin; refine Stop.un ?_) | (with_reducible refine Stop.conv 32 9 ?_) | (with_reducible refine Stop.conv 9 32 ?_))
          refine MixPost.mk hb9 ?_
          replace hF2 := Flt.mono hF2 hb9
          replace hG2 := Flt.mono hG2 hb9
          replace b1 := Below.next b1 hb9
          clear hb9
          refine mix_quiet Keeps.ext 4 rfl (by kernel_rfl) rfl ?_
          intro ι U hne hU
          have hcv := fun ii => run_conv_cs (P := Try.prog) (w := U ii) Try.underlying32 Try.underlying5 Try.underlying9 (cap := c9) H9.out (Cs.mono cs9 (hU ii) (Nat.le_refl _))
          go_big_quiet_op
          clear hU hne hcv U ι
          show wpAnyM _ _ _ _ _ _ _ _ _
          refine mix_any 6 rfl (by kernel_rfl) rfl ?_
          go_wp2_with (first | (at_make; refine Stop.un ?_) | (at_builtin; refine Stop.un ?_) | (with_reducible refine Stop.conv 32 9 ?_) | (with_reducible refine Stop.conv 9 32 ?_))
          refine (HB2.out _ hG2).mono ?_
          rintro e w10 ⟨a10, n10, c10, h10, rfl, o10⟩
          have hb10 := Own.below o10
          have cs10 := Own.cs o10
          have H10 := Lib.hid h10
          clear h10 o10
          go_wp2_with (first | (at_make; refine Stop.un ?_) | (at_builtin; refine Stop.un ?_) | (with_reducible refine Stop.conv 32 9 ?_) | (with_reducible refine Stop.conv 9 32 ?_))
          refine MixPost.mk hb10 ?_
          replace hF2 := Flt.mono hF2 hb10
          replace hG2 := Flt.mono hG2 hb10
          replace b1 := Below.next b1 hb10
          replace cs9 := Cs.mono cs9 hb10 (Nat.le_refl _)
          clear hb10
          refine mix_quiet Keeps.ext 7 rfl (by kernel_rfl) rfl ?_
          intro ι U hne hU
          have hcv := fun ii => run_conv_cs (P := Try.prog) (w := U ii) Try.underlying32 Try.underlying5 Try.underlying9 (cap := c10) H10.out (Cs.mono cs10 (hU ii) (Nat.le_refl _))
          go_big_quiet_op
          clear hU hne hcv U ι
          show wpAnyM _ _ _ _ _ _ _ _ _
          refine mix_quiet Keeps.ext 8 rfl (by kernel_rfl) rfl ?_
          intro ι U hne hU
          go_big_quiet_op
          clear hU hne U ι
          show wpAnyM _ _ _ _ _ _ _ _ _
          refine mix_quiet Keeps.ext 9 rfl (by kernel_rfl) rfl ?_
          intro ι U hne hU
          go_big_quiet_op
          clear hU hne U ι
          show wpAnyM _ _ _ _ _ _ _ _ _
          refine mix_quiet Keeps.ext 10 rfl (by kernel_rfl) rfl ?_
          intro ι U hne hU
          go_big_quiet_op
          clear hU hne U ι
          show wpAnyM _ _ _ _ _ _ _ _ _
          refine mix_end (by kernel_rfl) ?_
          go_wp2_with (first | (at_make; refine Stop.un ?_) | (at_builtin; refine Stop.un ?_) | (with_reducible refine Stop.conv 32 9 ?_) | (with_reducible refine Stop.conv 9 32 ?_))
          go_ret
          exact ⟨rfl, b1⟩
end Go.Proofs.Ytfakpmikflaofaa
