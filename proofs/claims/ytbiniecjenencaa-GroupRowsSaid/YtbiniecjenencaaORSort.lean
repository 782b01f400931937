/- The reference's Sort. -/
import Derived.Test.YtbiniecjenencaaODeep
import Derived.Test.YtbiniecjenencaaOMerge
import Derived.Test.YtbiniecjenencaaSymL
set_option linter.unusedVariables false
set_option linter.unusedSimpArgs false
set_option maxRecDepth 10000
namespace Go.Proofs.Ytbiniecjenencaa
open Go.RowKit
theorem Own.cutTo {w0 w : World} {e size n k : Nat} {ao : Option Addr} {cap : Nat} {xs : List Value} (h : Own w0 w e size (.slice ao n cap) n xs) (hk : k ≤ n) : Own w0 w e size (.slice ao k cap) k (xs.take (k * size)) := by
  refine ⟨⟨by rw [List.length_take, h.1.1]; exact Nat.min_eq_left (Nat.mul_le_mul_right _ hk), ?_⟩, h.2⟩
  rcases h.1.2 with ⟨hv, h0⟩ | ⟨g, cap', cur, hv, hb, hg, hn, hm, hc, ht⟩
  · simp only [Value.slice.injEq] at hv
    exact .inl ⟨by rw [hv.1, hv.2.2, show k = 0 by omega], by omega⟩
  · simp only [Value.slice.injEq] at hv
    obtain ⟨rfl, -, rfl⟩ := hv
    exact .inr ⟨g, cap, cur, rfl, hb, hg, Nat.le_trans hk hn, hm, hc, by rw [← ht, List.take_take, Nat.min_eq_left (Nat.mul_le_mul_right _ hk)]⟩
theorem OwnRs.cutTo {w0 w : World} {n k : Nat} {ao : Option Addr} {cap : Nat} {l : List Rw} (h : OwnRs w0 w (.slice ao n cap) n l) (hk : k ≤ n) : OwnRs w0 w (.slice ao k cap) k (l.take k) := by
  have := Own.cutTo h hk
  rwa [Nat.mul_one, show (rwcells l).take k = rwcells (l.take k) by simp [rwcells]] at this
theorem ownB_eq (ao : Option Addr) (n m c : Nat) : (Value.slice ao n c).ownBlock = (Value.slice ao m c).ownBlock := by cases ao <;> rfl
set_option maxRecDepth 100000 in
set_option maxHeartbeats 8000000 in
theorem rsort_any (ao : Option Addr) (n cap : Nat) (rows : List Rw) (ak : Option Addr) (p ck : Nat) (ks : List Ky) (w : World) (t : Tab w ao rows) (hn : rows.length = n) (hnc : n ≤ cap) (hcap : cap ≤ maxLen) (hn2 : n ≤ 100000) (kx : Cs w ak (kcells ks)) (hp : ks.length = p) (hle : p ≤ ck) (hm : ck ≤ maxLen) :
    Calls Try.prog 36 #[.slice ao n cap, .slice ak p ck] w (fun e w' => ∃ a c, e = .returned (.slice a n c) ∧ OwnRs w w' (.slice a n c) n (sortB (rcmp ks) rows)) := by
  unfold maxLen at hcap
  have HN := Lib.hid hn
  have HF := Lib.hid (fun (W : World) (r1 r2 : Rw) (o1 : RowOk W r1) (o2 : RowOk W r2) kx => orcompare_any r1.a r1.n r1.cap r1.l r2.a r2.n r2.cap r2.l ak p ck ks W o1 o2 kx hp hle hm)
  have hcc : ∀ x y : Rw, cmpR x.l y.l ks = rcmp ks x y := fun _ _ => rfl
  clear hn hp hle hm
  go_enter Try.func36, Try.ntmps36
  go_wp2_with (first | (at_make; refine Stop.un ?_) | (at_builtin; refine Stop.un ?_) | (with_reducible refine Stop.conv 22 9 ?_) | (with_reducible refine Stop.conv 9 22 ?_))
  go_loopw [6, 5] (fun i v wr => ∃ (j : Nat) (ab : Option Addr) (cb : Nat), j ≤ n ∧ i = .int .i64 (j : Int) ∧ v = .slice ab j cb ∧ OwnRs w wr (.slice ab j cb) j (sortB (rcmp ks) (rows.take j))) (fun i _ _ => n - (intOf i).toNat)
  case atStart => exact ⟨0, none, 0, Nat.zero_le _, rfl, rfl, Own.nil _ _ (Below.refl _ _)⟩
  case round =>
    obtain ⟨j, ab, cb, hj, rfl, rfl, O⟩ := hrel
    by_cases hlt : j < n
    · have hjl : j < rows.length := by have := HN.out; omega
      obtain ⟨S, hS⟩ : ∃ S, sortB (rcmp ks) (rows.take j) = S := ⟨_, rfl⟩
      rw [hS] at O
      have hSl : S.length = j := OwnRs.length O
      obtain ⟨x, hxx⟩ : ∃ x, rows[j] = x := ⟨_, rfl⟩
      have hnext : sortB (rcmp ks) (rows.take (j + 1)) = insB (rcmp ks) x S := by
        rw [List.take_succ_eq_append_getElem hjl, sortB_snoc, hS, hxx]
      have hSm : ∀ y ∈ S, y ∈ rows := fun y hy => List.mem_of_mem_take ((sortB_perm (rcmp ks) (rows.take j)).mem_iff.1 (hS ▸ hy))
      have hXm : x ∈ rows := hxx ▸ List.getElem_mem _
      have HJ : Hid (rows[j]? = some x) := Lib.hid (by rw [List.getElem?_eq_getElem hjl, hxx])
      have HM := Lib.hid (And.intro hSl (And.intro hSm hXm))
      have HNX := Lib.hid hnext
      have HST : Hid (∃ S1 S2, S = S1 ++ S2 ∧ S1.length = j ∧ ∀ y ∈ S2, rcmp ks x y < 0) := Lib.hid ⟨S, [], by simp, hSl, by simp⟩
      have hlec := owns_le O.1
      have hmxc := owns_max O.1
      clear hS hSl hnext hSm hXm hxx hjl
      obtain ⟨wo, hwo⟩ : ∃ wo : World, wo = wr := ⟨_, rfl⟩
      go_wp2_with (first | (at_make; refine Stop.un ?_) | (at_builtin; refine Stop.un ?_) | (with_reducible refine Stop.conv 22 9 ?_) | (with_reducible refine Stop.conv 9 22 ?_))
      go_loopw [7] (fun i wr => ∃ k : Nat, k ≤ j ∧ i = .int .i64 (k : Int) ∧ OwnRs w wr (.slice ab j cb) j S ∧ Hid (∃ S1 S2, S = S1 ++ S2 ∧ S1.length = k ∧ ∀ y ∈ S2, rcmp ks x y < 0)) (fun i _ => (intOf i).toNat)
      case atStart => exact ⟨j, Nat.le_refl _, rfl, O, HST⟩
      case round =>
        clear HST O hwo
        obtain ⟨k, hk, rfl, O, HS⟩ := hrel
        have hjl : j < rows.length := by have := HN.out; omega
        have t2 := t.mono (Own.below O)
        have kx2 := kx.mono (Own.below O) (Nat.le_refl _)
        obtain ⟨b, o, rfl⟩ := t.cs.addr (by rw [rwcells_length]; omega)
        have hbw : b < w.heap.size := lt_cell (t.at hjl)
        have hjx : rows[j] = x := (List.getElem?_eq_some_iff.1 HJ.out).2
        have x0 := t2.at hjl
        rw [hjx] at x0
        have o1 := t2.ok x HM.out.2.2
        have HXA : Hid (∀ W, Tab W (some ⟨b, o, none⟩) rows → W.cell? ⟨b, o + j, none⟩ = some (.slice x.a x.n x.cap)) := Lib.hid (fun W tt => by have := tt.at hjl; rwa [hjx] at this)
        clear hjx hjl
        obtain ⟨S1, S2, e1, e2, e3⟩ := HS.out
        by_cases hk0 : 0 < k
        · obtain ⟨e, rfl⟩ : ∃ e, k = e + 1 := ⟨k - 1, by omega⟩
          obtain ⟨S3, y, rfl⟩ : ∃ S3 y, S1 = S3 ++ [y] := by
            rcases List.eq_nil_or_concat S1 with h0 | ⟨S3, y, h0⟩
            · subst h0; simp at e2
            · exact ⟨S3, y, by rw [h0, List.concat_eq_append]⟩
          have e4 : S3.length = e := by rw [List.length_append, List.length_singleton] at e2; omega
          have hy : S[e]? = some y := by
            rw [e1, List.append_assoc, List.getElem?_append_right (by omega), e4, Nat.sub_self]
            rfl
          have o2 := t2.ok y (HM.out.2.1 y (List.mem_of_getElem? hy))
          have csO := Own.cs O
          obtain ⟨bo, oo, rfl⟩ := csO.addr (by rw [rwcells_length, HM.out.1]; omega)
          have y0 : wr.cell? ⟨bo, oo + e, none⟩ = some (.slice y.a y.n y.cap) := csO.at (by simp [rwcells, hy, Rw.sl])
          have HC := Lib.hid (fun W o2 o1 kx => HF.out W y x o2 o1 kx)
          rw [hcc] at HC
          have hd1 : decide ((0 : Int) < ((e + 1 : Nat) : Int)) = true := decide_eq_true (by omega)
          have hd2 : decide ((0 : Int) < (e : Int) + 1) = true := decide_eq_true (by omega)
          have HE := Lib.hid (And.intro e1 (And.intro e4 e3))
          clear e1 e2 e3 e4 hy csO HS t2
          go_upto_region 6 with fail
          refine mix_startE 16 rfl (by kernel_rfl) ?_
          intro xq hxq
          replace x0 := Ext.cell hxq x0
          replace y0 := Ext.cell hxq y0
          replace O := Own.keep O hxq
          replace kx2 := Cs.mono kx2 hxq (Nat.le_refl _)
          replace o1 := RowOk.mono o1 hxq
          replace o2 := RowOk.mono o2 hxq
          clear hxq
          refine mix_quiet Keeps.ext 0 rfl (by kernel_rfl) rfl ?_
          intro ι U hne hU
          go_big_quiet_op
          clear hU hne U ι
          show wpAnyM _ _ _ _ _ _ _ _ _
          refine mix_quiet Keeps.ext 1 rfl (by kernel_rfl) rfl ?_
          intro ι U hne hU
          go_big_quiet_op
          clear hU hne U ι
          show wpAnyM _ _ _ _ _ _ _ _ _
          refine mix_quiet Keeps.ext 2 rfl (by kernel_rfl) rfl ?_
          intro ι U hne hU
          go_big_quiet_op
          clear hU hne U ι
          show wpAnyM _ _ _ _ _ _ _ _ _
          refine mix_quiet Keeps.ext 3 rfl (by kernel_rfl) rfl ?_
          intro ι U hne hU
          go_big_quiet_op
          clear hU hne U ι
          show wpAnyM _ _ _ _ _ _ _ _ _
          refine mix_quiet Keeps.ext 4 rfl (by kernel_rfl) rfl ?_
          intro ι U hne hU
          go_big_quiet_op
          clear hU hne U ι
          show wpAnyM _ _ _ _ _ _ _ _ _
          refine mix_quiet Keeps.ext 5 rfl (by kernel_rfl) rfl ?_
          intro ι U hne hU
          go_big_quiet_op
          clear hU hne U ι
          show wpAnyM _ _ _ _ _ _ _ _ _
          refine mix_quiet Keeps.ext 6 rfl (by kernel_rfl) rfl ?_
          intro ι U hne hU
          go_big_quiet_op
          clear hU hne U ι
          show wpAnyM _ _ _ _ _ _ _ _ _
          refine mix_quiet Keeps.ext 7 rfl (by kernel_rfl) rfl ?_
          intro ι U hne hU
          have hcw0 := fun ii => (hU ii).cell x0
          have hcw1 := fun ii => (hU ii).cell y0
          go_big_quiet_op
          clear hU hne hcw0 hcw1 U ι
          show wpAnyM _ _ _ _ _ _ _ _ _
          refine mix_quiet Keeps.ext 8 rfl (by kernel_rfl) rfl ?_
          intro ι U hne hU
          go_big_quiet_op
          clear hU hne U ι
          show wpAnyM _ _ _ _ _ _ _ _ _
          refine mix_quiet Keeps.ext 9 rfl (by kernel_rfl) rfl ?_
          intro ι U hne hU
          go_big_quiet_op
          clear hU hne U ι
          show wpAnyM _ _ _ _ _ _ _ _ _
          refine mix_quiet Keeps.ext 10 rfl (by kernel_rfl) rfl ?_
          intro ι U hne hU
          go_big_quiet_op
          clear hU hne U ι
          show wpAnyM _ _ _ _ _ _ _ _ _
          refine mix_quiet Keeps.ext 11 rfl (by kernel_rfl) rfl ?_
          intro ι U hne hU
          have hcw0 := fun ii => (hU ii).cell x0
          have hcw1 := fun ii => (hU ii).cell y0
          go_big_quiet_op
          clear hU hne hcw0 hcw1 U ι
          show wpAnyM _ _ _ _ _ _ _ _ _
          refine mix_quiet Keeps.ext 12 rfl (by kernel_rfl) rfl ?_
          intro ι U hne hU
          go_big_quiet_op
          clear hU hne U ι
          show wpAnyM _ _ _ _ _ _ _ _ _
          refine mix_any 13 rfl (by kernel_rfl) rfl ?_
          go_wp2_with (first | (at_make; refine Stop.un ?_) | (at_builtin; refine Stop.un ?_) | (with_reducible refine Stop.conv 22 9 ?_) | (with_reducible refine Stop.conv 9 22 ?_))
          refine (HC.out _ o2 o1 kx2).mono ?_
          rintro e wz ⟨rfl, bz⟩
          go_wp2_with (first | (at_make; refine Stop.un ?_) | (at_builtin; refine Stop.un ?_) | (with_reducible refine Stop.conv 22 9 ?_) | (with_reducible refine Stop.conv 9 22 ?_))
          refine MixPost.mk bz ?_
          replace x0 := Ext.cell bz x0
          replace y0 := Ext.cell bz y0
          replace O := Own.keep O bz
          replace kx2 := Cs.mono kx2 bz (Nat.le_refl _)
          replace o1 := RowOk.mono o1 bz
          replace o2 := RowOk.mono o2 bz
          clear bz
          refine mix_quiet Keeps.ext 14 rfl (by kernel_rfl) rfl ?_
          intro ι U hne hU
          go_big_quiet_op
          clear hU hne U ι
          show wpAnyM _ _ _ _ _ _ _ _ _
          refine mix_quiet Keeps.ext 15 rfl (by kernel_rfl) rfl ?_
          intro ι U hne hU
          go_big_quiet_op
          clear hU hne U ι
          show wpAnyM _ _ _ _ _ _ _ _ _
          refine mix_end (by kernel_rfl) ?_
          clear x0 y0 o1 o2 HC kx2
          by_cases hc : 0 < rcmp ks y x
          ·
            have hd : decide (0 < rcmp ks y x) = true := decide_eq_true hc
            have HST : Hid (∃ T1 T2, S = T1 ++ T2 ∧ T1.length = e ∧ ∀ z ∈ T2, rcmp ks x z < 0) := Lib.hid ⟨S3, y :: S2, by rw [HE.out.1]; simp, HE.out.2.1, fun z hz => by
              rcases List.mem_cons.1 hz with rfl | hz
              · have := rneg ks z x; omega
              · exact HE.out.2.2 z hz⟩
            go_wp2_with (first | (at_make; refine Stop.un ?_) | (at_builtin; refine Stop.un ?_) | (with_reducible refine Stop.conv 22 9 ?_) | (with_reducible refine Stop.conv 9 22 ?_))
            go_roundw
            case rel => exact ⟨e, by omega, by go_num, O, HST⟩
            case measure => simp [intOf] <;> omega
          ·
            have hd : decide (0 < rcmp ks y x) = false := decide_eq_false hc
            have HFIN : Hid (sortB (rcmp ks) (rows.take (j + 1)) = S.take (e + 1) ++ [x] ++ S.drop (e + 1)) := Lib.hid (by
              have h1 : (S3 ++ [y]).length = e + 1 := by rw [List.length_append, HE.out.2.1]; rfl
              rw [HNX.out, HE.out.1, ← h1, List.take_left, List.drop_left, insB_split (rcmp ks) x (S3 ++ [y]) S2 HE.out.2.2 (fun T z hz => by
                have := (List.append_inj' hz rfl).2
                simp at this
                have h2 := rneg ks y x
                rw [← this]; omega)]
              simp)
            clear HE HNX HJ
            have hO0 : OwnRs w (wz.alloc (.cells #[] 36)) (.slice (some ⟨wz.heap.size, 0, none⟩) 0 0) 0 [] := Own.block (Own.below O) rfl (by decide)
            have OA := Own.alloc O (.cells #[] 36)
            have csA := Own.cs OA
            have hap0 : Apart (.slice (some ⟨bo, oo, none⟩) j cb) (.slice (some ⟨wz.heap.size, 0, none⟩) 0 0) := fun q h e => by
              have := Own.lt O q h
              have e2 : some wz.heap.size = some q := e
              have e3 := Option.some.inj e2
              omega
            have hkj : e + 1 ≤ j := by omega
            clear O
            go_wp2_with (first | (at_make; refine Stop.un ?_) | (at_builtin; refine Stop.un ?_) | (with_reducible refine Stop.conv 22 9 ?_) | (with_reducible refine Stop.conv 9 22 ?_) | (with_reducible refine Stop.slice ?_))
            refine Stop.mk (wpList_cutR (some ⟨bo, oo, none⟩) j cb (e + 1) rfl rfl rfl (by omega) hlec csA HM.out.1 ?_)
            intro a7 h7
            have h8 := h7 _ csA
            clear h7
            go_wp2_with (first | (at_make; refine Stop.un ?_) | (at_builtin; refine Stop.un ?_) | (with_reducible refine Stop.conv 22 9 ?_) | (with_reducible refine Stop.conv 9 22 ?_))
            refine Stop.mk (app_rws w _ _ rfl rfl hO0 rfl rfl (m := j - (e + 1)) (by rw [List.length_drop, HM.out.1]) h8 (by omega) ?_)
            intro a5 c5 w5 O5 g5 k5
            simp only [Nat.zero_add, List.nil_append] at O5 k5 ⊢
            have OB := Own.beside OA g5 hap0 (Own.below O5)
            have hap5 := Own.apart OA hap0 k5
            have OC : OwnRs w w5 (.slice (some ⟨bo, oo, none⟩) (e + 1) cb) (e + 1) (S.take (e + 1)) := OwnRs.cutTo OB (by omega)
            have hap6 : Apart (.slice a5 (j - (e + 1)) c5) (.slice (some ⟨bo, oo, none⟩) (e + 1) cb) := fun q h e => hap5 q ((ownB_eq _ j _ _).trans e) h
            have t5 := t.mono (Own.below OC)
            have x5 := HXA.out _ t5
            have hnb : some b ≠ (Value.slice (some ⟨bo, oo, none⟩) (e + 1) cb).ownBlock := fun e => by have := Own.ge OC b e.symm; omega
            have hb5 : b < w5.heap.size := lt_cell x5
            clear g5 k5 OA csA hO0 hap0 h8 OB hap5 t5
            go_upto_region 9 with fail
            refine mix_startX (w5.heap.size) (Value.slice (some ⟨bo, oo, none⟩) (e + 1) cb).ownBlock 10 rfl (by kernel_rfl) ?_
            intro xq hxq
            have hsq := hxq.size
            replace OC := Own.keep OC hxq
            replace O5 := Own.keep O5 hxq
            replace x5 := Ext.cell hxq x5
            clear hxq
            refine mix_quiet (Keeps.rx (w5.heap.size) (Value.slice (some ⟨bo, oo, none⟩) (e + 1) cb).ownBlock) 0 rfl (by kernel_rfl) rfl ?_
            intro ι U hne hU
            go_big_quiet_op
            clear hU hne U ι
            show wpAnyM _ _ _ _ _ _ _ _ _
            refine mix_quiet (Keeps.rx (w5.heap.size) (Value.slice (some ⟨bo, oo, none⟩) (e + 1) cb).ownBlock) 1 rfl (by kernel_rfl) rfl ?_
            intro ι U hne hU
            go_big_quiet_op
            clear hU hne U ι
            show wpAnyM _ _ _ _ _ _ _ _ _
            refine mix_quiet (Keeps.rx (w5.heap.size) (Value.slice (some ⟨bo, oo, none⟩) (e + 1) cb).ownBlock) 2 rfl (by kernel_rfl) rfl ?_
            intro ι U hne hU
            go_big_quiet_op
            clear hU hne U ι
            show wpAnyM _ _ _ _ _ _ _ _ _
            refine mix_quiet (Keeps.rx (w5.heap.size) (Value.slice (some ⟨bo, oo, none⟩) (e + 1) cb).ownBlock) 3 rfl (by kernel_rfl) rfl ?_
            intro ι U hne hU
            go_big_quiet_op
            clear hU hne U ι
            show wpAnyM _ _ _ _ _ _ _ _ _
            refine mix_quiet (Keeps.rx (w5.heap.size) (Value.slice (some ⟨bo, oo, none⟩) (e + 1) cb).ownBlock) 4 rfl (by kernel_rfl) rfl ?_
            intro ι U hne hU
            go_big_quiet_op
            clear hU hne U ι
            show wpAnyM _ _ _ _ _ _ _ _ _
            refine mix_quiet (Keeps.rx (w5.heap.size) (Value.slice (some ⟨bo, oo, none⟩) (e + 1) cb).ownBlock) 5 rfl (by kernel_rfl) rfl ?_
            intro ι U hne hU
            go_big_quiet_op
            clear hU hne U ι
            show wpAnyM _ _ _ _ _ _ _ _ _
            refine mix_quiet (Keeps.rx (w5.heap.size) (Value.slice (some ⟨bo, oo, none⟩) (e + 1) cb).ownBlock) 6 rfl (by kernel_rfl) rfl ?_
            intro ι U hne hU
            have hcw0 := fun ii => (RX.cell (hU ii) hb5 hnb x5)
            go_big_quiet_op
            clear hU hne hcw0 U ι
            show wpAnyM _ _ _ _ _ _ _ _ _
            refine mix_any 7 rfl (by kernel_rfl) rfl ?_
            go_wp2_with (first | (at_make; refine Stop.un ?_) | (at_builtin; refine Stop.un ?_) | (with_reducible refine Stop.conv 22 9 ?_) | (with_reducible refine Stop.conv 9 22 ?_))
            have bq := (Below.refl xq.heap.size xq).alloc (Nat.le_refl _) (.cells #[.slice x.a x.n x.cap] 36)
            refine MixPost.mk (RX.ext bq hsq) ?_
            have hsq2 := bq.size
            have O6 := Own.keep O5 bq
            clear bq
            refine mix_any 8 rfl (by kernel_rfl) rfl ?_
            go_wp2_with (first | (at_make; refine Stop.un ?_) | (at_builtin; refine Stop.un ?_) | (with_reducible refine Stop.conv 22 9 ?_) | (with_reducible refine Stop.conv 9 22 ?_))
            refine Stop.mk (app_rws w _ _ rfl rfl (Own.alloc OC _) rfl rfl rfl (rws_new xq x 36) (by omega) ?_)
            intro a9 c9 w9 O9 g9 k9
            go_wp2_with (first | (at_make; refine Stop.un ?_) | (at_builtin; refine Stop.un ?_) | (with_reducible refine Stop.conv 22 9 ?_) | (with_reducible refine Stop.conv 9 22 ?_))
            refine MixPost.mk ⟨g9.os, g9.tape, g9.output, g9.size, fun q hq hn => g9.block q (by omega) hn⟩ ?_
            have R9 := Own.beside O6 g9 hap6 (Own.below O9)
            clear g9 k9 O6 O5 OC hsq hsq2 x5 hap6 hnb hb5
            refine mix_quiet (Keeps.rx (w5.heap.size) (Value.slice (some ⟨bo, oo, none⟩) (e + 1) cb).ownBlock) 9 rfl (by kernel_rfl) rfl ?_
            intro ι U hne hU
            go_big_quiet_op
            clear hU hne U ι
            show wpAnyM _ _ _ _ _ _ _ _ _
            refine mix_end (by kernel_rfl) ?_
            go_wp2_with (first | (at_make; refine Stop.un ?_) | (at_builtin; refine Stop.un ?_) | (with_reducible refine Stop.conv 22 9 ?_) | (with_reducible refine Stop.conv 9 22 ?_))
            refine Stop.mk (app_rws w _ _ rfl rfl O9 rfl rfl (m := j - (e + 1)) (by rw [List.length_drop, HM.out.1]) (Own.cs R9) (by omega) ?_)
            intro a10 c10 w10 O10 g10 k10
            rw [show e + 1 + 1 + (j - (e + 1)) = j + 1 by omega] at O10 ⊢
            rw [← HFIN.out] at O10
            clear g10 k10 R9 O9 HFIN
            go_wp2_with (first | (at_make; refine Stop.un ?_) | (at_builtin; refine Stop.un ?_) | (with_reducible refine Stop.conv 22 9 ?_) | (with_reducible refine Stop.conv 9 22 ?_))
            go_roundw
            case rel => exact ⟨j + 1, a10, c10, by omega, by go_num, rfl, O10⟩
            case measure => simp [intOf]; omega
        · obtain rfl : k = 0 := by omega
          obtain rfl : S1 = [] := List.eq_nil_of_length_eq_zero e2
          rw [List.nil_append] at e1
          subst e1
          have HFIN : Hid (sortB (rcmp ks) (rows.take (j + 1)) = S.take 0 ++ [x] ++ S.drop 0) := Lib.hid (by
            have := insB_split (rcmp ks) x [] S e3 (fun T z hz => by simp at hz)
            simp only [List.nil_append] at this
            rw [HNX.out, this]; simp)
          have hd1 : decide ((0 : Int) < ((0 : Nat) : Int)) = false := decide_eq_false (by omega)
          clear e3 HS e2 t2 HNX HJ
          go_upto_region 6 with fail
          refine mix_startE 16 rfl (by kernel_rfl) ?_
          intro xq hxq
          replace x0 := Ext.cell hxq x0
          replace O := Own.keep O hxq
          replace kx2 := Cs.mono kx2 hxq (Nat.le_refl _)
          replace o1 := RowOk.mono o1 hxq
          clear hxq
          refine mix_quiet Keeps.ext 0 rfl (by kernel_rfl) rfl ?_
          intro ι U hne hU
          go_big_quiet_op
          clear hU hne U ι
          show wpAnyM _ _ _ _ _ _ _ _ _
          refine mix_quiet Keeps.ext 1 rfl (by kernel_rfl) rfl ?_
          intro ι U hne hU
          go_big_quiet_op
          clear hU hne U ι
          show wpAnyM _ _ _ _ _ _ _ _ _
          refine mix_quiet Keeps.ext 2 rfl (by kernel_rfl) rfl ?_
          intro ι U hne hU
          go_big_quiet_op
          clear hU hne U ι
          show wpAnyM _ _ _ _ _ _ _ _ _
          refine mix_skip Keeps.ext 3 rfl (by kernel_rfl) rfl ?_
          go_big_quiet_skip
          refine wpQuiet_nil ?_
          show wpAnyM _ _ _ _ _ _ _ _ _
          refine mix_skip Keeps.ext 4 rfl (by kernel_rfl) rfl ?_
          go_big_quiet_skip
          refine wpQuiet_nil ?_
          show wpAnyM _ _ _ _ _ _ _ _ _
          refine mix_skip Keeps.ext 5 rfl (by kernel_rfl) rfl ?_
          go_big_quiet_skip
          refine wpQuiet_nil ?_
          show wpAnyM _ _ _ _ _ _ _ _ _
          refine mix_skip Keeps.ext 6 rfl (by kernel_rfl) rfl ?_
          go_big_quiet_skip
          refine wpQuiet_nil ?_
          show wpAnyM _ _ _ _ _ _ _ _ _
          refine mix_skip Keeps.ext 7 rfl (by kernel_rfl) rfl ?_
          go_big_quiet_skip
          refine wpQuiet_nil ?_
          show wpAnyM _ _ _ _ _ _ _ _ _
          refine mix_skip Keeps.ext 8 rfl (by kernel_rfl) rfl ?_
          go_big_quiet_skip
          refine wpQuiet_nil ?_
          show wpAnyM _ _ _ _ _ _ _ _ _
          refine mix_skip Keeps.ext 9 rfl (by kernel_rfl) rfl ?_
          go_big_quiet_skip
          refine wpQuiet_nil ?_
          show wpAnyM _ _ _ _ _ _ _ _ _
          refine mix_skip Keeps.ext 10 rfl (by kernel_rfl) rfl ?_
          go_big_quiet_skip
          refine wpQuiet_nil ?_
          show wpAnyM _ _ _ _ _ _ _ _ _
          refine mix_skip Keeps.ext 11 rfl (by kernel_rfl) rfl ?_
          go_big_quiet_skip
          refine wpQuiet_nil ?_
          show wpAnyM _ _ _ _ _ _ _ _ _
          refine mix_skip Keeps.ext 12 rfl (by kernel_rfl) rfl ?_
          go_big_quiet_skip
          refine wpQuiet_nil ?_
          show wpAnyM _ _ _ _ _ _ _ _ _
          refine mix_skip Keeps.ext 13 rfl (by kernel_rfl) rfl ?_
          go_big_quiet_skip
          refine wpQuiet_nil ?_
          show wpAnyM _ _ _ _ _ _ _ _ _
          refine mix_skip Keeps.ext 14 rfl (by kernel_rfl) rfl ?_
          go_big_quiet_skip
          refine wpQuiet_nil ?_
          show wpAnyM _ _ _ _ _ _ _ _ _
          refine mix_quiet Keeps.ext 15 rfl (by kernel_rfl) rfl ?_
          intro ι U hne hU
          go_big_quiet_op
          clear hU hne U ι
          show wpAnyM _ _ _ _ _ _ _ _ _
          refine mix_end (by kernel_rfl) ?_
          clear x0 o1 kx2
          have hO0 : OwnRs w (xq.alloc (.cells #[] 36)) (.slice (some ⟨xq.heap.size, 0, none⟩) 0 0) 0 [] := Own.block (Own.below O) rfl (by decide)
          have OA := Own.alloc O (.cells #[] 36)
          have csA := Own.cs OA
          have hap0 : Apart (.slice ab j cb) (.slice (some ⟨xq.heap.size, 0, none⟩) 0 0) := fun q h e => by
            have := Own.lt O q h
            have e2 : some xq.heap.size = some q := e
            have e3 := Option.some.inj e2
            omega
          have hkj : 0 ≤ j := by omega
          clear O
          go_wp2_with (first | (at_make; refine Stop.un ?_) | (at_builtin; refine Stop.un ?_) | (with_reducible refine Stop.conv 22 9 ?_) | (with_reducible refine Stop.conv 9 22 ?_) | (with_reducible refine Stop.slice ?_))
          refine Stop.mk (wpList_cutR ab j cb (0) rfl rfl rfl (by omega) hlec csA HM.out.1 ?_)
          intro a7 h7
          have h8 := h7 _ csA
          clear h7
          go_wp2_with (first | (at_make; refine Stop.un ?_) | (at_builtin; refine Stop.un ?_) | (with_reducible refine Stop.conv 22 9 ?_) | (with_reducible refine Stop.conv 9 22 ?_))
          refine Stop.mk (app_rws w _ _ rfl rfl hO0 rfl rfl (m := j - (0)) (by rw [List.length_drop, HM.out.1]) h8 (by omega) ?_)
          intro a5 c5 w5 O5 g5 k5
          simp only [Nat.zero_add, List.nil_append] at O5 k5 ⊢
          have OB := Own.beside OA g5 hap0 (Own.below O5)
          have hap5 := Own.apart OA hap0 k5
          have OC : OwnRs w w5 (.slice ab (0) cb) (0) (S.take (0)) := OwnRs.cutTo OB (by omega)
          have hap6 : Apart (.slice a5 (j - (0)) c5) (.slice ab (0) cb) := fun q h e => hap5 q ((ownB_eq _ j _ _).trans e) h
          have t5 := t.mono (Own.below OC)
          have x5 := HXA.out _ t5
          have hnb : some b ≠ (Value.slice ab (0) cb).ownBlock := fun e => by have := Own.ge OC b e.symm; omega
          have hb5 : b < w5.heap.size := lt_cell x5
          clear g5 k5 OA csA hO0 hap0 h8 OB hap5 t5
          go_upto_region 9 with fail
          refine mix_startX (w5.heap.size) (Value.slice ab (0) cb).ownBlock 10 rfl (by kernel_rfl) ?_
          intro xq hxq
          have hsq := hxq.size
          replace OC := Own.keep OC hxq
          replace O5 := Own.keep O5 hxq
          replace x5 := Ext.cell hxq x5
          clear hxq
          refine mix_quiet (Keeps.rx (w5.heap.size) (Value.slice ab (0) cb).ownBlock) 0 rfl (by kernel_rfl) rfl ?_
          intro ι U hne hU
          go_big_quiet_op
          clear hU hne U ι
          show wpAnyM _ _ _ _ _ _ _ _ _
          refine mix_quiet (Keeps.rx (w5.heap.size) (Value.slice ab (0) cb).ownBlock) 1 rfl (by kernel_rfl) rfl ?_
          intro ι U hne hU
          go_big_quiet_op
          clear hU hne U ι
          show wpAnyM _ _ _ _ _ _ _ _ _
          refine mix_quiet (Keeps.rx (w5.heap.size) (Value.slice ab (0) cb).ownBlock) 2 rfl (by kernel_rfl) rfl ?_
          intro ι U hne hU
          go_big_quiet_op
          clear hU hne U ι
          show wpAnyM _ _ _ _ _ _ _ _ _
          refine mix_quiet (Keeps.rx (w5.heap.size) (Value.slice ab (0) cb).ownBlock) 3 rfl (by kernel_rfl) rfl ?_
          intro ι U hne hU
          go_big_quiet_op
          clear hU hne U ι
          show wpAnyM _ _ _ _ _ _ _ _ _
          refine mix_quiet (Keeps.rx (w5.heap.size) (Value.slice ab (0) cb).ownBlock) 4 rfl (by kernel_rfl) rfl ?_
          intro ι U hne hU
          go_big_quiet_op
          clear hU hne U ι
          show wpAnyM _ _ _ _ _ _ _ _ _
          refine mix_quiet (Keeps.rx (w5.heap.size) (Value.slice ab (0) cb).ownBlock) 5 rfl (by kernel_rfl) rfl ?_
          intro ι U hne hU
          go_big_quiet_op
          clear hU hne U ι
          show wpAnyM _ _ _ _ _ _ _ _ _
          refine mix_quiet (Keeps.rx (w5.heap.size) (Value.slice ab (0) cb).ownBlock) 6 rfl (by kernel_rfl) rfl ?_
          intro ι U hne hU
          have hcw0 := fun ii => (RX.cell (hU ii) hb5 hnb x5)
          go_big_quiet_op
          clear hU hne hcw0 U ι
          show wpAnyM _ _ _ _ _ _ _ _ _
          refine mix_any 7 rfl (by kernel_rfl) rfl ?_
          go_wp2_with (first | (at_make; refine Stop.un ?_) | (at_builtin; refine Stop.un ?_) | (with_reducible refine Stop.conv 22 9 ?_) | (with_reducible refine Stop.conv 9 22 ?_))
          have bq := (Below.refl xq.heap.size xq).alloc (Nat.le_refl _) (.cells #[.slice x.a x.n x.cap] 36)
          refine MixPost.mk (RX.ext bq hsq) ?_
          have hsq2 := bq.size
          have O6 := Own.keep O5 bq
          clear bq
          refine mix_any 8 rfl (by kernel_rfl) rfl ?_
          go_wp2_with (first | (at_make; refine Stop.un ?_) | (at_builtin; refine Stop.un ?_) | (with_reducible refine Stop.conv 22 9 ?_) | (with_reducible refine Stop.conv 9 22 ?_))
          refine Stop.mk (app_rws w _ _ rfl rfl (Own.alloc OC _) rfl rfl rfl (rws_new xq x 36) (by omega) ?_)
          intro a9 c9 w9 O9 g9 k9
          go_wp2_with (first | (at_make; refine Stop.un ?_) | (at_builtin; refine Stop.un ?_) | (with_reducible refine Stop.conv 22 9 ?_) | (with_reducible refine Stop.conv 9 22 ?_))
          refine MixPost.mk ⟨g9.os, g9.tape, g9.output, g9.size, fun q hq hn => g9.block q (by omega) hn⟩ ?_
          have R9 := Own.beside O6 g9 hap6 (Own.below O9)
          clear g9 k9 O6 O5 OC hsq hsq2 x5 hap6 hnb hb5
          refine mix_quiet (Keeps.rx (w5.heap.size) (Value.slice ab (0) cb).ownBlock) 9 rfl (by kernel_rfl) rfl ?_
          intro ι U hne hU
          go_big_quiet_op
          clear hU hne U ι
          show wpAnyM _ _ _ _ _ _ _ _ _
          refine mix_end (by kernel_rfl) ?_
          go_wp2_with (first | (at_make; refine Stop.un ?_) | (at_builtin; refine Stop.un ?_) | (with_reducible refine Stop.conv 22 9 ?_) | (with_reducible refine Stop.conv 9 22 ?_))
          refine Stop.mk (app_rws w _ _ rfl rfl O9 rfl rfl (m := j - (0)) (by rw [List.length_drop, HM.out.1]) (Own.cs R9) (by omega) ?_)
          intro a10 c10 w10 O10 g10 k10
          rw [show 0 + 1 + (j - (0)) = j + 1 by omega] at O10 ⊢
          rw [← HFIN.out] at O10
          clear g10 k10 R9 O9 HFIN
          go_wp2_with (first | (at_make; refine Stop.un ?_) | (at_builtin; refine Stop.un ?_) | (with_reducible refine Stop.conv 22 9 ?_) | (with_reducible refine Stop.conv 9 22 ?_))
          go_roundw
          case rel => exact ⟨j + 1, a10, c10, by omega, by go_num, rfl, O10⟩
          case measure => simp [intOf]; omega
    · obtain rfl : j = n := by omega
      rw [List.take_of_length_le (by have := HN.out; omega)] at O
      go_wp2_with (first | (at_make; refine Stop.un ?_) | (at_builtin; refine Stop.un ?_) | (with_reducible refine Stop.conv 22 9 ?_) | (with_reducible refine Stop.conv 9 22 ?_))
      go_ret
      exact ⟨_, _, rfl, O⟩
end Go.Proofs.Ytbiniecjenencaa
