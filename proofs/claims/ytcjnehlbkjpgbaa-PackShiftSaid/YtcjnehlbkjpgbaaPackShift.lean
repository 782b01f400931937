/- PackShift. -/
import Derived.Test.YtcjnehlbkjpgbaaPackRound
set_option linter.unusedVariables false
set_option linter.unusedSimpArgs false
namespace Go.Proofs.Ytcjnehlbkjpgbaa
open Go.RowKit
def shA (l : List Int) : List Int := l.map fun n => n.tmod 1001
def shB (l : List Int) (d : Int) : List Int := l.map fun n => n.tmod 1001 + d
theorem tmod_in (n : Int) : -1000 ≤ n.tmod 1001 ∧ n.tmod 1001 ≤ 1000 := by
  have h1 := Int.tmod_lt_of_pos n (show (0 : Int) < 1001 by decide)
  have h2 := Int.lt_tmod_of_pos n (show (0 : Int) < 1001 by decide)
  omega
theorem minE_shift (l : List Int) (d : Int) (h : l ≠ []) : minE (l.map (· + d)) = minE l + d := by
  apply Int.le_antisymm
  · exact minE_le _ _ (List.mem_map.2 ⟨_, minE_mem l h, rfl⟩)
  · obtain ⟨x, hx, e⟩ := List.mem_map.1 (minE_mem (l.map (· + d)) (fun e => h (List.map_eq_nil_iff.1 e)))
    have := minE_le l x hx
    omega
theorem moreL_shift (l : List Int) (d : Int) : moreL (l.map (· + d)) = moreL l := by
  by_cases h : l = []
  · subst h; rfl
  · unfold moreL
    rw [minE_shift l d h, List.map_map]
    apply List.map_congr_left
    intro n _
    show (n + d - (minE l + d)).toNat = (n - minE l).toNat
    congr 1
    omega
theorem frame_shift (l : List Int) (d : Int) : (frameB l).length ≤ (frameB (l.map (· + d))).length + 8 ∧ (frameB (l.map (· + d))).length ≤ (frameB l).length + 8 := by
  by_cases h : l = []
  · subst h; simp
  · have h2 : l.map (· + d) ≠ [] := fun e => h (List.map_eq_nil_iff.1 e)
    unfold frameB
    rw [if_neg h, if_neg h2, moreL_shift, List.length_map]
    have k1 := intB_length (minE l)
    have k2 := intB_length (minE (l.map (· + d)))
    have k3 := (numB_length (Lib.zigzag (minE l))).1
    have k4 := (numB_length (Lib.zigzag (minE (l.map (· + d))))).1
    simp only [List.length_append]
    unfold intB at *
    omega
theorem shB_eq (l : List Int) (d : Int) : shB l d = (shA l).map (· + d) := by simp [shA, shB]
set_option maxRecDepth 100000 in
set_option maxHeartbeats 4000000 in
theorem packShift_any (ao : Option Addr) (m cap : Nat) (zs : List Int) (by_ : Int) (w : World) (hc : Cs w ao (zs.map (Value.int .i16))) (hm : zs.length = m) (hl : m ≤ cap) (hcm : cap ≤ maxLen)
    (hwf : ∀ n ∈ zs, -32768 ≤ n ∧ n ≤ 32767) (hb0 : -2147483648 ≤ by_) (hb1 : by_ ≤ 2147483647) :
    Calls Try.prog 8 #[.slice ao m cap, .int .i32 by_] w (fun e w' => e = .returned (.bool true) ∧ Below w.heap.size w w') := by
  have hcap : cap ≤ 9223372036854775807 := hcm
  have HM := Lib.hid hm
  have HW := Lib.hid hwf
  clear hm hcm hwf
  go_enter Try.func8, Try.ntmps8
  go_wp2_with (first | (at_make; refine Stop.un ?_) | (at_builtin; refine Stop.un ?_) | (with_reducible refine Stop.conv 24 9 ?_) | (with_reducible refine Stop.conv 9 24 ?_))
  refine (shown_any _).mono ?_
  rintro e w1 ⟨rfl, b1⟩
  go_wp2_with (first | (at_make; refine Stop.un ?_) | (at_builtin; refine Stop.un ?_) | (with_reducible refine Stop.conv 24 9 ?_) | (with_reducible refine Stop.conv 9 24 ?_))
  go_loopw [6, 7, 19] (fun v u c wr => ∃ (j : Nat) (aa : Option Addr) (ca : Nat) (ab : Option Addr) (cb : Nat), j ≤ m ∧ j ≤ 500 ∧ c = .int .i64 (j : Int) ∧ v = .slice aa j ca ∧ u = .slice ab j cb ∧ OwnI w wr (.slice aa j ca) j (shA (zs.take j)) ∧ OwnI w wr (.slice ab j cb) j (shB (zs.take j) by_) ∧ Apart (.slice aa j ca) (.slice ab j cb)) (fun _ _ c _ => m - (intOf c).toNat)
  case atStart => exact ⟨0, none, 0, none, 0, by omega, by omega, rfl, rfl, rfl, Own.nil _ _ b1, Own.nil _ _ b1, Apart.nil _⟩
  case round =>
    clear b1
    obtain ⟨j, aa, ca, ab, cb, hj, hj2, rfl, rfl, rfl, hA, hB, hap⟩ := hrel
    by_cases hgo : j < m ∧ j < 500
    · obtain ⟨hlt, h500⟩ := hgo
      have hjl : j < zs.length := by have := HM.out; omega
      obtain ⟨b, o, rfl⟩ := hc.addr (by rw [List.length_map]; omega)
      have hcell := (hc.mono (Own.below hA) (Nat.le_refl _)).at (j := j) (u := .int .i16 zs[j]) (by simp [hjl])
      obtain ⟨hn0, hn1⟩ := HW.out zs[j] (List.getElem_mem _)
      have ht : zs.take (j + 1) = zs.take j ++ [zs[j]] := by rw [List.take_succ_eq_append_getElem hjl]
      generalize zs[j] = n at hcell hn0 hn1 ht
      have HT := Lib.hid ht
      have HAp := Lib.hid hap
      have ht0 := tmod_in n
      clear hjl ht hap
      go_wp2_with (first | (at_make; refine Stop.un ?_) | (at_builtin; refine Stop.un ?_) | (with_reducible refine Stop.conv 24 9 ?_) | (with_reducible refine Stop.conv 9 24 ?_))
      refine Stop.mk (app_i1 w _ _ rfl rfl hA rfl rfl (by omega) ?_)
      intro a4 c4 w4 hA4 hg4 hk4
      have hB4 := Own.beside hB hg4 HAp.out.symm (Own.below hA4)
      have HAp4 := Lib.hid (Own.apart hB HAp.out.symm hk4)
      clear hA hB hg4 hk4
      go_wp2_with (first | (at_make; refine Stop.un ?_) | (at_builtin; refine Stop.un ?_) | (with_reducible refine Stop.conv 24 9 ?_) | (with_reducible refine Stop.conv 9 24 ?_))
      refine Stop.mk (app_i1 w _ _ rfl rfl hB4 rfl rfl (by omega) ?_)
      intro a5 c5 w5 hB5 hg5 hk5
      have hA5 := Own.beside hA4 hg5 HAp4.out.symm (Own.below hB5)
      have HAp5 := Lib.hid (Own.apart hA4 HAp4.out.symm hk5)
      clear hA4 hB4 hg5 hk5
      go_wp2_with (first | (at_make; refine Stop.un ?_) | (at_builtin; refine Stop.un ?_) | (with_reducible refine Stop.conv 24 9 ?_) | (with_reducible refine Stop.conv 9 24 ?_))
      go_roundw
      case rel => exact ⟨j + 1, a4, c4, a5, c5, by omega, by omega, by go_num, rfl, rfl, by rw [HT.out, shA, List.map_append]; exact hA5, by rw [HT.out, shB, List.map_append]; exact hB5, HAp5.out⟩
      case measure => simp [intOf] <;> omega
    · have hx : (j < m ∧ 500 ≤ j) ∨ ¬ j < m := by omega
      have hjm := hj
      clear hgo
      have hLl : (shA (zs.take j)).length = j := by rw [shA, List.length_map, List.length_take, HM.out]; omega
      rw [shB_eq] at hB
      have hin : inI (shA (zs.take j)) := by
        intro n hn; obtain ⟨x, _, rfl⟩ := List.mem_map.1 hn
        have := tmod_in x
        omega
      have hinB : inI ((shA (zs.take j)).map (· + by_)) := by
        intro n hn; obtain ⟨y, hy, rfl⟩ := List.mem_map.1 hn
        obtain ⟨x, _, rfl⟩ := List.mem_map.1 hy
        have := tmod_in x
        omega
      generalize shA (zs.take j) = L at hA hB hLl hin hinB
      have hLB : (L.map (· + by_)).length = j := by rw [List.length_map]; exact hLl
      have hsh := frame_shift L by_
      have hflA := frameB_length L (by omega)
      have hflB := frameB_length (L.map (· + by_)) (by omega)
      have hun := unfO_frame (L.map (· + by_)) (by omega) hinB
      have hA0 := frameR_ok L (by omega)
      have hB0 := frameR_ok (L.map (· + by_)) (by omega)
      generalize L.map (· + by_) = LB at hB hinB hLB hsh hflB hun hB0
      have HAc := And.intro (owns_le hA.1) (owns_max hA.1)
      have HBc := And.intro (owns_le hB.1) (owns_max hB.1)
      have HFA : Hid (∀ w, Cs w aa (icells L) → Calls Try.prog 20 #[.slice aa j ca] w (RetP w (frameB L) 0)) := Lib.hid (fun w hc => by
        have h := frame_any aa j ca L w hc hLl HAc.1 HAc.2 hin
        rwa [hA0.1, hA0.2] at h)
      have HFB : Hid (∀ w, Cs w ab (icells LB) → Calls Try.prog 20 #[.slice ab j cb] w (RetP w (frameB LB) 0)) := Lib.hid (fun w hc => by
        have h := frame_any ab j cb LB w hc hLB HBc.1 HBc.2 hinB
        rwa [hB0.1, hB0.2] at h)
      have HU : Hid (∀ a n c w, (frameB LB).length = n → Cs w a (bcells (frameB LB)) → n ≤ c → Calls Try.prog 22 #[.slice a n c] w (RetK w (some LB))) := Lib.hid (fun a n c w hn hc hcn => by
        have h := unframe_any a n c (frameB LB) w hc hn hcn (by omega)
        rwa [hun] at h)
      have HEQ := Lib.hid (fun a c w ha hb hcl => intsEq_any a ab j c cb LB w ha hb hLB (by omega) hcl HBc.1)
      have HLB := Lib.hid hLB
      have HSH := Lib.hid (And.intro hsh (And.intro hflA hflB))
      generalize frameB L = fa at HFA HSH
      generalize frameB LB = fb at HFB HU HSH
      have ka := Own.cs hA
      have kb := Own.cs hB
      have b1 := Own.below hA
      clear hLl hap hin hinB hsh hflA hflB hun hA0 hB0 hA hB HAc HBc hLB
      rcases hx with ⟨hlt, h500⟩ | hlt
      · have hj3 : j = 500 := by omega
        obtain ⟨b, o, rfl⟩ := hc.addr (by rw [List.length_map]; have := HM.out; omega)
        have hcell := (hc.mono b1 (Nat.le_refl _)).at (j := j) (u := .int .i16 (zs.getD j 0)) (by have := HM.out; simp; rw [List.getElem?_eq_getElem (by omega)]; simp [show j < zs.length by omega])
        generalize zs.getD j 0 = n at hcell
        have hdec : decide (500 ≤ (j : Int)) = true := by simp; omega
        clear hj3
        go_wp2_with (first | (at_make; refine Stop.un ?_) | (at_builtin; refine Stop.un ?_) | (with_reducible refine Stop.conv 24 9 ?_) | (with_reducible refine Stop.conv 9 24 ?_))
        refine (HFA.out _ ka).mono ?_
        rintro e w3 ⟨a3, n3, c3, h3, rfl, o3⟩
        have H3 := Lib.hid h3
        replace b1 := b1.next (Own.below o3)
        replace kb := kb.mono (Own.below o3) (Nat.le_refl _)
        clear h3 o3 ka
        go_wp2_with (first | (at_make; refine Stop.un ?_) | (at_builtin; refine Stop.un ?_) | (with_reducible refine Stop.conv 24 9 ?_) | (with_reducible refine Stop.conv 9 24 ?_))
        refine (HFB.out _ kb).mono ?_
        rintro e w4 ⟨a4, n4, c4, h4, rfl, o4⟩
        have H4 := Lib.hid h4
        have l4 := owns_le o4.1
        replace b1 := b1.next (Own.below o4)
        replace kb := kb.mono (Own.below o4) (Nat.le_refl _)
        have ky := Own.cs o4
        clear h4 o4
        go_wp2_with (first | (at_make; refine Stop.un ?_) | (at_builtin; refine Stop.un ?_) | (with_reducible refine Stop.conv 24 9 ?_) | (with_reducible refine Stop.conv 9 24 ?_))
        refine (HU.out _ _ _ _ H4.out ky l4).mono ?_
        rintro e w5 ⟨a5, n5, c5, h5, rfl, o5⟩
        have hn5 : n5 = j := by rw [← h5]; exact HLB.out
        subst hn5
        have l5 := owns_le o5.1
        replace b1 := b1.next (Own.below o5)
        replace kb := kb.mono (Own.below o5) (Nat.le_refl _)
        have kz := Own.cs o5
        rw [show tkF (some LB) = 0 from rfl]
        rw [Option.getD_some] at kz
        have hs : n3 ≤ n4 + 8 ∧ n4 ≤ n3 + 8 ∧ n3 ≤ 40000 ∧ n4 ≤ 40000 := by have h1 := HSH.out; have h2 := H3.out; have h3 := H4.out; omega
        clear h5 o5 ky
        go_wp2_with (first | (at_make; refine Stop.un ?_) | (at_builtin; refine Stop.un ?_) | (with_reducible refine Stop.conv 24 9 ?_) | (with_reducible refine Stop.conv 9 24 ?_))
        refine (HEQ.out a5 c5 _ kz kb l5).mono ?_
        rintro e w6 ⟨rfl, hb⟩
        replace b1 := b1.next hb
        clear hb kz kb
        go_wp2_with (first | (at_make; refine Stop.un ?_) | (at_builtin; refine Stop.un ?_) | (with_reducible refine Stop.conv 24 9 ?_) | (with_reducible refine Stop.conv 9 24 ?_))
        go_ret
        exact ⟨by simp; omega, b1⟩
      · clear hj
        go_wp2_with (first | (at_make; refine Stop.un ?_) | (at_builtin; refine Stop.un ?_) | (with_reducible refine Stop.conv 24 9 ?_) | (with_reducible refine Stop.conv 9 24 ?_))
        refine (HFA.out _ ka).mono ?_
        rintro e w3 ⟨a3, n3, c3, h3, rfl, o3⟩
        have H3 := Lib.hid h3
        replace b1 := b1.next (Own.below o3)
        replace kb := kb.mono (Own.below o3) (Nat.le_refl _)
        clear h3 o3 ka
        go_wp2_with (first | (at_make; refine Stop.un ?_) | (at_builtin; refine Stop.un ?_) | (with_reducible refine Stop.conv 24 9 ?_) | (with_reducible refine Stop.conv 9 24 ?_))
        refine (HFB.out _ kb).mono ?_
        rintro e w4 ⟨a4, n4, c4, h4, rfl, o4⟩
        have H4 := Lib.hid h4
        have l4 := owns_le o4.1
        replace b1 := b1.next (Own.below o4)
        replace kb := kb.mono (Own.below o4) (Nat.le_refl _)
        have ky := Own.cs o4
        clear h4 o4
        go_wp2_with (first | (at_make; refine Stop.un ?_) | (at_builtin; refine Stop.un ?_) | (with_reducible refine Stop.conv 24 9 ?_) | (with_reducible refine Stop.conv 9 24 ?_))
        refine (HU.out _ _ _ _ H4.out ky l4).mono ?_
        rintro e w5 ⟨a5, n5, c5, h5, rfl, o5⟩
        have hn5 : n5 = j := by rw [← h5]; exact HLB.out
        subst hn5
        have l5 := owns_le o5.1
        replace b1 := b1.next (Own.below o5)
        replace kb := kb.mono (Own.below o5) (Nat.le_refl _)
        have kz := Own.cs o5
        rw [show tkF (some LB) = 0 from rfl]
        rw [Option.getD_some] at kz
        have hs : n3 ≤ n4 + 8 ∧ n4 ≤ n3 + 8 ∧ n3 ≤ 40000 ∧ n4 ≤ 40000 := by have h1 := HSH.out; have h2 := H3.out; have h3 := H4.out; omega
        clear h5 o5 ky
        go_wp2_with (first | (at_make; refine Stop.un ?_) | (at_builtin; refine Stop.un ?_) | (with_reducible refine Stop.conv 24 9 ?_) | (with_reducible refine Stop.conv 9 24 ?_))
        refine (HEQ.out a5 c5 _ kz kb l5).mono ?_
        rintro e w6 ⟨rfl, hb⟩
        replace b1 := b1.next hb
        clear hb kz kb
        go_wp2_with (first | (at_make; refine Stop.un ?_) | (at_builtin; refine Stop.un ?_) | (with_reducible refine Stop.conv 24 9 ?_) | (with_reducible refine Stop.conv 9 24 ?_))
        go_ret
        exact ⟨by simp; omega, b1⟩
end Go.Proofs.Ytcjnehlbkjpgbaa
