/- The reference's Frame. -/
import Derived.Test.YtcjnehlbkjpgbaaFrame
set_option linter.unusedVariables false
set_option linter.unusedSimpArgs false
namespace Go.Proofs.Ytcjnehlbkjpgbaa
open Go.RowKit
theorem app_u1' {w : World} {c : Nat} {ci : Int} {e : TypeId} {ops : Array Oper} {rest : List Oper} {o : Oper} {a : Act} {Q : Exit → Act → World → Prop} (w0 : World) (s x : Operand) (hci : ci = (c : Int))
    (hgd : Region.wanted o (yielded ops a.tmps) = true) (ho : o.op = .call { callee := .builtin .append, args := #[s, x], argTypes := #[22, 22] })
    {v : Value} {n : Nat} {l : List Nat} (hown : OwnU w0 w v n l) (hs : a.eval s = v)
    (hx : a.eval x = .slice (some ⟨w.heap.size, 0, none⟩) 1 1) (hb : (n + 1) * 8 ≤ 140737488355328)
    (h : ∀ ao cap w', OwnU w0 w' (.slice ao (n + 1) cap) (n + 1) (l ++ [c]) → w.grownBy w' v.ownBlock → (∀ k, (Value.slice ao (n + 1) cap).ownBlock = some k → v.ownBlock = some k ∨ w.heap.size ≤ k) → wpList Try.prog ops Q rest (a.put o.dst (.slice ao (n + 1) cap)) w') :
    wpList Try.prog ops Q (o :: rest) a (w.alloc (.cells #[.int .u64 ci] e)) := by
  subst hci
  exact app_u1 w0 s x hgd ho hown hs hx hb h
/-- The least of the first j, and of the first of all. -/
def gmin (l : List Int) (j : Nat) : Int := (l.take j).foldl min (l.headD 0)
theorem gmin_step (l : List Int) (j : Nat) (hj : j < l.length) : gmin l (j + 1) = min (gmin l j) l[j] := by
  unfold gmin
  rw [List.take_succ_eq_append_getElem hj, List.foldl_append, List.foldl_cons, List.foldl_nil]
theorem gmin_end (l : List Int) : gmin l l.length = minE l := by
  unfold gmin
  rw [List.take_length]
  cases l with
  | nil => rfl
  | cons x r => show r.foldl min (min x x) = r.foldl min x; rw [Int.min_self]
theorem gmin_in (l : List Int) (j : Nat) (h : inI l) (h0 : 0 < l.length) : -9223372036854775808 ≤ gmin l j ∧ gmin l j ≤ 9223372036854775807 := by
  unfold gmin
  rcases (foldmin_le (l.take j) (l.headD 0)).2.2 with e | e
  · rw [e]
    cases l with
    | nil => simp at h0
    | cons x r => exact h x (by simp)
  · exact h _ (List.mem_of_mem_take e)
set_option maxHeartbeats 4000000 in
set_option maxRecDepth 100000 in
theorem rframe_any (ao : Option Addr) (m cap : Nat) (l : List Int) (w : World) (hc : Cs w ao (icells l)) (hm : l.length = m) (hlc : m ≤ cap) (hl : cap ≤ maxLen) (hi : inI l) :
    Calls Try.prog 21 #[.slice ao m cap] w (RetP w (frameR l) (frameE l)) := by
  have hl2 := hl
  unfold maxLen at hl
  by_cases h4 : 4096 < m
  · rw [show frameR l = [] from if_pos (by omega), show frameE l = 3 from if_pos (by omega)]
    clear hc hi hm
    go_enter Try.func21, Try.ntmps21
    go_wp2_with (first | (at_make; refine Stop.un ?_) | (at_builtin; refine Stop.un ?_) | (with_reducible refine Stop.conv 24 9 ?_) | (with_reducible refine Stop.conv 9 24 ?_))
    go_ret2
    exact ⟨none, 0, 0, rfl, rfl, Own.nil _ _ (Below.refl _ _)⟩
  · rw [show frameR l = frameB l from if_neg (by omega), show frameE l = 0 from if_neg (by omega)]
    have hf : frameB l = numB m ++ (if l = [] then [] else intB (minE l) ++ (numB (widN (moreL l)) ++ packB (moreL l) (widN (moreL l)))) := by rw [← hm]; rfl
    have HNUM := Lib.hid (fun w => rnum_any none 0 0 [] (m : Int) w (Cs.nil _ _) rfl (by omega) (by omega) (by omega))
    rw [Int.toNat_natCast, List.nil_append] at HNUM
    by_cases h0 : m = 0
    · subst h0
      have hl0 : l = [] := List.eq_nil_of_length_eq_zero hm
      rw [if_pos hl0, List.append_nil] at hf
      have HFF := Lib.hid hf
      clear hf hc hi hm hl0
      generalize frameB l = fb at HFF ⊢
      go_enter Try.func21, Try.ntmps21
      go_wp2_with (first | (at_make; refine Stop.un ?_) | (at_builtin; refine Stop.un ?_) | (with_reducible refine Stop.conv 24 9 ?_) | (with_reducible refine Stop.conv 9 24 ?_))
      refine (HNUM.out _).mono ?_
      rintro e w1 ⟨a1, n1, c1, h1, rfl, o1⟩
      have H1 := Lib.hid h1
      clear h1
      go_wp2_with (first | (at_make; refine Stop.un ?_) | (at_builtin; refine Stop.un ?_) | (with_reducible refine Stop.conv 24 9 ?_) | (with_reducible refine Stop.conv 9 24 ?_))
      go_ret2
      rw [HFF.out]
      exact ⟨_, _, _, H1.out, rfl, o1⟩
    · have hln : l ≠ [] := fun e => h0 (by rw [← hm, e]; rfl)
      have hmin := hi _ (minE_mem l hln)
      rw [if_neg hln] at hf
      have hmo := moreL_lt l hi
      have hml := moreL_length l
      have hw64 := widN_le64 (moreL l)
      have HWD : Hid (∀ a c w, Cs w a (ucells (moreL l)) → m ≤ c → Calls Try.prog 16 #[.slice a m c] w (fun e w' => e = .returned (.int .i64 (widN (moreL l) : Int)) ∧ w = w')) := Lib.hid (fun a c w z hc => rwidth_any a m c (moreL l) w z (by rw [hml, hm]) hc (by unfold maxLen; omega) hmo)
      have HPK : Hid (∀ a c w, Cs w a (ucells (moreL l)) → m ≤ c → Calls Try.prog 11 #[.slice a m c, .int .i64 (widN (moreL l) : Int)] w (RetP w (packB (moreL l) (widN (moreL l))) 0)) := Lib.hid (fun a c w z hc => by
        have h := rpack_any a m c (widN (moreL l) : Int) (moreL l) w z (by rw [hml, hm]) hc hmo
        rwa [packR_ok _ _ (by rw [hml, hm]; exact bytE_ok m _ (by omega) hw64) (by omega), packE_ok _ _ (by rw [hml, hm]; exact bytE_ok m _ (by omega) hw64) (by omega)] at h)
      have hpl : (packB (moreL l) (widN (moreL l))).length ≤ 40000 := by
        rw [packB_length, hml, hm]
        have : m * widN (moreL l) ≤ 4096 * 64 := Nat.mul_le_mul (by omega) hw64
        omega
      have HGS := Lib.hid (fun j h => gmin_step l j h)
      have HGI := Lib.hid (fun j => gmin_in l j hi (by omega))
      have HGE : Hid (gmin l m = minE l) := Lib.hid (by rw [← hm]; exact gmin_end l)
      have h00 : 0 < l.length := by omega
      have hg0 : l[0] = gmin l 0 := by cases l with
        | nil => simp at h00
        | cons x r => rfl
      have HMG : Hid (∀ j (h : j < l.length), (moreL l)[j]? = some (l[j] - minE l).toNat) := Lib.hid (fun j h => by simp [moreL, h])
      have HLE : Hid (∀ j (h : j < l.length), minE l ≤ l[j]) := Lib.hid (fun j h => minE_le l _ (List.getElem_mem h))
      have HML : Hid ((moreL l).length = m) := Lib.hid (by rw [hml, hm])
      obtain ⟨b, o, rfl⟩ := hc.addr (by rw [icells_length]; omega)
      have x0 : w.cell? ⟨b, o + 0, none⟩ = some (.int .i64 l[0]) := hc.at (by simp [icells, h00])
      rw [Nat.add_zero, hg0] at x0
      have HI := Lib.hid hi
      have HM := Lib.hid hm
      have HFF := Lib.hid hf
      have HPL := Lib.hid hpl
      clear hf hi hm hln hmo hml hpl hg0 h00
      generalize frameB l = fb at HFF ⊢
      generalize minE l = least at HFF hmin HMG HLE HGE
      generalize packB (moreL l) (widN (moreL l)) = pk at HFF HPK HPL
      generalize widN (moreL l) = W at HFF HPK HWD hw64
      generalize moreL l = mo at HPK HWD HMG HML
      generalize gmin l = G at HGS HGI HGE x0
      have hm0 : ((m : Int) == 0) = false := by simpa using h0
      go_enter Try.func21, Try.ntmps21
      go_wp2_with (first | (at_make; refine Stop.un ?_) | (at_builtin; refine Stop.un ?_) | (with_reducible refine Stop.conv 24 9 ?_) | (with_reducible refine Stop.conv 9 24 ?_))
      refine (HNUM.out _).mono ?_
      rintro e w1 ⟨a1, n1, c1, h1, rfl, o1⟩
      have H1 := Lib.hid h1
      have hn1 : n1 ≤ 9 := by have := numB_length m; omega
      replace hc := hc.mono (Own.below o1) (Nat.le_refl _)
      replace x0 : w1.cell? ⟨b, o, none⟩ = some (.int .i64 (G 0)) := by rw [(Own.below o1).cell (lt_cell x0)]; exact x0
      clear h1
      go_wp2_with (first | (at_make; refine Stop.un ?_) | (at_builtin; refine Stop.un ?_) | (with_reducible refine Stop.conv 24 9 ?_) | (with_reducible refine Stop.conv 9 24 ?_))
      go_loopw [5, 6] (fun a i wr => ∃ j : Nat, j ≤ m ∧ a = .int .i64 (G j) ∧ i = .int .i64 (j : Int) ∧ wr = w1) (fun _ i _ => m - (intOf i).toNat)
      case atStart => exact ⟨0, Nat.zero_le _, rfl, rfl, rfl⟩
      case round =>
        obtain ⟨j, hj, rfl, rfl, rfl⟩ := hrel
        by_cases hlt : j < m
        · have hjl : j < l.length := by have := HM.out; omega
          have HST := Lib.hid (HGS.out j hjl)
          have x1 : wr.cell? ⟨b, o + j, none⟩ = some (.int .i64 l[j]) := hc.at (by simp [icells, hjl])
          have hx := HI.out l[j] (List.getElem_mem _)
          have hy := HGI.out j
          generalize l[j] = x at x1 HST hx
          generalize hGj : G j = y at hy HST ⊢
          clear hjl x0 hGj
          go_wp2_with (first | (at_make; refine Stop.un ?_) | (at_builtin; refine Stop.un ?_) | (with_reducible refine Stop.conv 24 9 ?_) | (with_reducible refine Stop.conv 9 24 ?_))
          go_roundw
          case rel => exact ⟨j + 1, by omega, by rw [HST.out], by go_num, True.intro⟩
          case measure => simp [intOf]; omega
        · have hjm : j = m := by omega
          rw [hjm, HGE.out]
          clear hlt hj hjm x0 HGS HGI HGE
          obtain ⟨wo, rfl⟩ : ∃ wo : World, wo = wr := ⟨_, rfl⟩
          go_wp2_with (first | (at_make; refine Stop.un ?_) | (at_builtin; refine Stop.un ?_) | (with_reducible refine Stop.conv 24 9 ?_) | (with_reducible refine Stop.conv 9 24 ?_))
          go_loopw [7, 8] (fun v i wr => ∃ (j : Nat) (a : Option Addr) (c : Nat), j ≤ m ∧ v = .slice a j c ∧ i = .int .i64 (j : Int) ∧ OwnU wo wr (.slice a j c) j (mo.take j)) (fun _ i _ => m - (intOf i).toNat)
          case atStart => exact ⟨0, none, 0, Nat.zero_le _, rfl, rfl, Own.nil _ _ (Below.refl _ _)⟩
          case round =>
            obtain ⟨k, a, c, hk, rfl, rfl, hO⟩ := hrel
            by_cases hlt : k < m
            · have hkl : k < l.length := by have := HM.out; omega
              have x1 : wr.cell? ⟨b, o + k, none⟩ = some (.int .i64 l[k]) := (hc.mono (Own.below hO) (Nat.le_refl _)).at (by simp [icells, hkl])
              have hx := HI.out l[k] (List.getElem_mem _)
              have hme := more_eq l[k] least hx hmin (HLE.out k hkl)
              have hmg := HMG.out k hkl
              have hjm : k < mo.length := by have := HML.out; omega
              have HST : Hid (mo.take (k + 1) = mo.take k ++ [(l[k] - least).toNat]) := Lib.hid (by
                rw [List.take_succ_eq_append_getElem hjm]
                congr 2
                rw [List.getElem?_eq_getElem hjm] at hmg
                exact Option.some.inj hmg)
              have HME := Lib.hid hme
              generalize l[k] = x at x1 hx hmg HST HME
              clear hme hmg
              go_wp2_with (first | (at_make; refine Stop.un ?_) | (at_builtin; refine Stop.un ?_) | (with_reducible refine Stop.conv 24 9 ?_) | (with_reducible refine Stop.conv 9 24 ?_))
              refine Stop.mk (app_u1' wo _ _ HME.out rfl rfl hO rfl rfl (by omega) ?_)
              intro a6 c6 w9 hO6 hg6 hk6
              rw [← HST.out] at hO6
              clear hO
              go_wp2_with (first | (at_make; refine Stop.un ?_) | (at_builtin; refine Stop.un ?_) | (with_reducible refine Stop.conv 24 9 ?_) | (with_reducible refine Stop.conv 9 24 ?_))
              go_roundw
              case rel => exact ⟨k + 1, a6, c6, by omega, by go_num, by go_num, hO6⟩
              case measure => simp [intOf]; omega
            · have hkm : k = m := by omega
              rw [hkm, List.take_of_length_le (by rw [HML.out]; omega)] at hO
              clear hlt hk
              subst hkm
              have hca := owns_le hO.1
              replace o1 := Own.keep o1 (Own.below hO)
              have cso := Own.cs hO
              clear hO
              go_wp2_with (first | (at_make; refine Stop.un ?_) | (at_builtin; refine Stop.un ?_) | (with_reducible refine Stop.conv 24 9 ?_) | (with_reducible refine Stop.conv 9 24 ?_))
              refine (HWD.out _ _ _ cso hca).mono ?_
              rintro e w2 ⟨rfl, rfl⟩
              go_wp2_with (first | (at_make; refine Stop.un ?_) | (at_builtin; refine Stop.un ?_) | (with_reducible refine Stop.conv 24 9 ?_) | (with_reducible refine Stop.conv 9 24 ?_))
              refine (rint_any a1 n1 c1 _ least _ (Own.cs o1) H1.out (by omega) hmin.1 hmin.2).mono ?_
              rintro e w9 ⟨a9, n9, c9, h9, rfl, o9⟩
              have hn9 : n9 ≤ 18 := by have := numB_length (Lib.zigzag least); have := H1.out; unfold intB at h9; simp at h9; omega
              have H9 := Lib.hid h9
              replace cso := cso.mono (Own.below o9) (Nat.le_refl _)
              replace o9 := Own.up o9 (Own.below o1)
              clear h9 o1
              go_wp2_with (first | (at_make; refine Stop.un ?_) | (at_builtin; refine Stop.un ?_) | (with_reducible refine Stop.conv 24 9 ?_) | (with_reducible refine Stop.conv 9 24 ?_))
              refine (rnum_any a9 n9 c9 _ (W : Int) _ (Own.cs o9) H9.out (by omega) (by omega) (by omega)).mono ?_
              rintro e wA ⟨aA, nA, cA, hA, rfl, oA⟩
              rw [Int.toNat_natCast] at hA oA
              have hnA : nA ≤ 27 := by have := numB_length W; have := H9.out; simp at hA this; omega
              have HA := Lib.hid hA
              replace cso := cso.mono (Own.below oA) (Nat.le_refl _)
              replace oA := Own.up oA (Own.below o9)
              clear hA o9
              go_wp2_with (first | (at_make; refine Stop.un ?_) | (at_builtin; refine Stop.un ?_) | (with_reducible refine Stop.conv 24 9 ?_) | (with_reducible refine Stop.conv 9 24 ?_))
              refine (HPK.out _ _ _ cso hca).mono ?_
              rintro e w8 ⟨a8, n8, c8, h8, rfl, o8⟩
              have hn8 : n8 ≤ 40000 := by have := HPL.out; omega
              have H8 := Lib.hid h8
              have cs8 := Own.cs o8
              replace oA := Own.keep oA (Own.below o8)
              clear o8 h8 cso
              go_wp2_with (first | (at_make; refine Stop.un ?_) | (at_builtin; refine Stop.un ?_) | (with_reducible refine Stop.conv 24 9 ?_) | (with_reducible refine Stop.conv 9 24 ?_))
              refine Stop.mk (app_bs w _ _ rfl rfl oA rfl rfl H8.out cs8 (by omega) ?_)
              intro aB cB wB oB
              go_wp2_with (first | (at_make; refine Stop.un ?_) | (at_builtin; refine Stop.un ?_) | (with_reducible refine Stop.conv 24 9 ?_) | (with_reducible refine Stop.conv 9 24 ?_))
              go_ret2
              have hfb : fb = numB k ++ intB least ++ numB W ++ pk := by rw [HFF.out]; simp
              rw [← hfb] at oB
              exact ⟨_, _, _, by have := Own.length oB; simpa [bcells_length] using this, rfl, oB⟩
end Go.Proofs.Ytcjnehlbkjpgbaa
