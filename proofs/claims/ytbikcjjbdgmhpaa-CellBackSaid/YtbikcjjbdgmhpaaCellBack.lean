/- CellBack. -/
import Derived.Test.YtbikcjjbdgmhpaaCellPuts
import Derived.Test.YtbikcjjbdgmhpaaVRow
set_option linter.unusedVariables false
namespace Go.Proofs.Ytbikcjjbdgmhpaa
open Go.RowKit
/-- Values, one behind the other, as bytes. -/
def bsOf (l : List V) : List UInt8 := l.flatMap putV
theorem tailV_length (a : V) (h : a.k = 3 → a.s.size ≤ 1024) : (tailV a).length ≤ 1033 := by
  unfold tailV
  split
  · have := (numB_length (Lib.zigzag a.n)).2; unfold intB; omega
  · split
    · rename_i h3
      have h1 := h h3
      have := (numB_length a.s.data.toList.length).2
      unfold textB
      rw [List.length_append, data_length] at *
      omega
    · simp
theorem putV_length (a : V) : 1 ≤ (putV a).length ∧ (putV a).length ≤ 1034 := by
  unfold putV
  have : (tailV (canon a)).length ≤ 1033 := by
    refine tailV_length _ (fun h => ?_)
    rcases canon_cases a with e | e | e | e | ⟨hs, e⟩ <;> rw [e] at h ⊢
    · simp [V.zero] at h
    · simp at h
    · simp at h
    · simp at h
    · exact hs
  simp; omega
theorem bsOf_snoc (l : List V) (a : V) : bsOf (l ++ [a]) = bsOf l ++ putV a := by simp [bsOf]
theorem bsOf_cons (a : V) (l : List V) : bsOf (a :: l) = putV a ++ bsOf l := by simp [bsOf]
set_option maxRecDepth 100000 in
set_option maxHeartbeats 4000000 in
theorem cellBack_any (ao : Option Addr) (m cap : Nat) (l : List V) (w : World) (hc : Cs w ao (vcells l)) (hm : l.length = m) (hl : m ≤ cap) (hcm : cap ≤ maxLen) (hok : ∀ v ∈ l, v.ok) :
    Calls Try.prog 9 #[.slice ao m cap] w (fun e w' => e = .returned (.bool true) ∧ Below w.heap.size w w') := by
  unfold maxLen at hcm
  have HM := Lib.hid hm
  have HOK := Lib.hid hok
  clear hm hok
  go_enter Try.func9, Try.ntmps9
  go_wp2_with (first | (at_make; refine Stop.un ?_) | (at_builtin; refine Stop.un ?_) | (with_reducible refine Stop.conv 33 9 ?_) | (with_reducible refine Stop.conv 9 33 ?_))
  refine (shown_any _).mono ?_
  rintro e w1 ⟨rfl, b1⟩
  go_upto_block 0 with fail
  go_cut [4, 5] (fun b n wx => ∃ (j kb : Nat) (ab : Option Addr) (cb : Nat), j ≤ m ∧ j ≤ 100 ∧ n = .int .i64 (j : Int) ∧ b = .slice ab kb cb ∧ kb ≤ 1034 * j ∧ kb ≤ cb ∧ Hid ((bsOf (l.take j)).length = kb) ∧ Cs wx ab (bcells (bsOf (l.take j))) ∧ Below w.heap.size w wx)
  case first =>
    go_wp2_with fail
    go_loopw [4, 5, 16] (fun b n i wr => ∃ (j kb : Nat) (ab : Option Addr) (cb : Nat), j ≤ m ∧ j ≤ 100 ∧ i = .int .i64 (j : Int) ∧ n = .int .i64 (j : Int) ∧ b = .slice ab kb cb ∧ kb ≤ 1034 * j ∧ kb ≤ cb ∧ Hid ((bsOf (l.take j)).length = kb) ∧ Cs wr ab (bcells (bsOf (l.take j))) ∧ Below w.heap.size w wr) (fun _ _ i _ => m - (intOf i).toNat)
    case atStart => exact ⟨0, 0, none, 0, by omega, by omega, rfl, rfl, rfl, by omega, by omega, Lib.hid rfl, Cs.nil _ _, b1⟩
    case round =>
      clear b1
      obtain ⟨j, kb, ab, cb, hj, hj1, rfl, rfl, rfl, hkb, hcb, HL, hcs, hb⟩ := hrel
      by_cases hlt : j < m
      · have hjl : j < l.length := by have := HM.out; omega
        obtain ⟨b, o, rfl⟩ := hc.addr (by rw [vcells_length]; omega)
        obtain ⟨x0, x1, x2⟩ := (hc.mono hb (Nat.le_refl _)).vat hjl
        obtain ⟨hk0, hk1, hn0, hn1, hs⟩ := HOK.out l[j] (List.getElem_mem _)
        have ht : l.take (j + 1) = l.take j ++ [l[j]] := by rw [List.take_succ_eq_append_getElem hjl]
        generalize l[j] = v at x0 x1 x2 hk0 hk1 hn0 hn1 hs ht
        obtain ⟨k, n, s⟩ := v
        simp only at x0 x1 x2 hk0 hk1 hn0 hn1 hs
        unfold maxLen at hs
        have HT := Lib.hid ht
        have HN := Lib.hid (And.intro hn0 hn1)
        clear ht hjl hk0 hk1 hn0 hn1
        by_cases hgo : j < 100 ∧ s.size ≤ 3000
        · obtain ⟨h100, hs3⟩ := hgo
          have hd100 : decide (100 ≤ (j : Int)) = false := by simp; omega
          have hd3 : decide (3000 < (s.size : Int)) = false := by simp; omega
          go_wp2_with (first | (at_make; refine Stop.un ?_) | (at_builtin; refine Stop.un ?_) | (with_reducible refine Stop.conv 33 9 ?_) | (with_reducible refine Stop.conv 9 33 ?_))
          refine (putx ab kb cb (bsOf (l.take j)) k n s _ (hcs.mono ((Below.refl _ _).alloc (Nat.le_refl _) _) (Nat.le_refl _)) HL.out (by omega) HN.out).mono ?_
          rintro e w2 ⟨a2, n2, c2, h2, rfl, o2⟩
          have hb2 := (hb.next ((Below.refl wr.heap.size wr).alloc (Nat.le_refl _) (.cells #[.int .u8 k, .int .i64 n, .string s] 23))).next (Own.below o2)
          have hc2 := Own.cs o2
          have hle2 := owns_le o2.1
          have hn2 : n2 ≤ 1034 * (j + 1) := by
            have := (putV_length ⟨k, n, s⟩).2
            rw [List.length_append, HL.out] at h2; omega
          have H2 := Lib.hid h2
          clear h2 o2 hb hcs x0 x1 x2 hd100 hd3
          go_wp2_with (first | (at_make; refine Stop.un ?_) | (at_builtin; refine Stop.un ?_) | (with_reducible refine Stop.conv 33 9 ?_) | (with_reducible refine Stop.conv 9 33 ?_))
          go_roundw
          case rel => exact ⟨j + 1, n2, a2, c2, by omega, by omega, by go_num, by go_num, rfl, hn2, hle2, by rw [HT.out, bsOf_snoc]; exact H2, by rw [HT.out, bsOf_snoc]; exact hc2, hb2⟩
          case measure => simp [intOf]; omega
        · have hex : 100 ≤ j ∨ (j < 100 ∧ 3000 < s.size) := by omega
          clear hgo
          have hb3 := hb.next ((Below.refl wr.heap.size wr).alloc (Nat.le_refl _) (.cells #[.int .u8 k, .int .i64 n, .string s] 23))
          have hc3 := hcs.mono ((Below.refl wr.heap.size wr).alloc (Nat.le_refl _) (.cells #[.int .u8 k, .int .i64 n, .string s] 23)) (Nat.le_refl _)
          rcases hex with h | ⟨h1, h2⟩
          · have hd100 : decide (100 ≤ (j : Int)) = true := by simp; omega
            clear hb hcs
            go_wp2_with (first | (at_make; refine Stop.un ?_) | (at_builtin; refine Stop.un ?_) | (with_reducible refine Stop.conv 33 9 ?_) | (with_reducible refine Stop.conv 9 33 ?_))
            go_meet
            exact ⟨j, kb, ab, cb, hj, hj1, rfl, rfl, hkb, hcb, HL, hc3, hb3⟩
          · have hd100 : decide (100 ≤ (j : Int)) = false := by simp; omega
            have hd3 : decide (3000 < (s.size : Int)) = true := by simp; omega
            clear hb hcs
            go_wp2_with (first | (at_make; refine Stop.un ?_) | (at_builtin; refine Stop.un ?_) | (with_reducible refine Stop.conv 33 9 ?_) | (with_reducible refine Stop.conv 9 33 ?_))
            go_meet
            exact ⟨j, kb, ab, cb, hj, hj1, rfl, rfl, hkb, hcb, HL, hc3, hb3⟩
      · go_wp2_with (first | (at_make; refine Stop.un ?_) | (at_builtin; refine Stop.un ?_) | (with_reducible refine Stop.conv 33 9 ?_) | (with_reducible refine Stop.conv 9 33 ?_))
        go_meet
        exact ⟨j, kb, ab, cb, hj, hj1, rfl, rfl, hkb, hcb, HL, hcs, hb⟩
  case rest =>
    obtain ⟨j, kb, ab, cb, hj, hj1, rfl, rfl, hkb, hcb, HL, hcs, hb⟩ := hcut
    clear b1
    have hcj := hc.take (j * 3)
    rw [vcells_take] at hcj
    have HLJ : Hid ((l.take j).length = j) := Lib.hid (by rw [List.length_take, HM.out]; omega)
    have HOJ : Hid (∀ v ∈ l.take j, v.ok) := Lib.hid (fun v hv => HOK.out v (List.mem_of_mem_take hv))
    generalize l.take j = L at HL hcs hcj HLJ HOJ
    have hjc : j ≤ cap := by omega
    go_wp2_with fail
    go_loopw [4, 39] (fun b i wr => ∃ (q kb : Nat) (ab : Option Addr) (cb : Nat), q ≤ j ∧ i = .int .i64 (q : Int) ∧ b = .slice ab kb cb ∧ kb ≤ 103400 ∧ kb ≤ cb ∧ Hid ((bsOf (L.drop q)).length = kb) ∧ Cs wr ab (bcells (bsOf (L.drop q))) ∧ Below w.heap.size w wr) (fun _ i _ => j - (intOf i).toNat)
    case atStart => exact ⟨0, kb, ab, cb, by omega, rfl, rfl, by omega, hcb, HL, hcs, hb⟩
    case round =>
      clear hkb hcb HL hcs hb
      obtain ⟨q, kq, aq, cq, hq, rfl, rfl, hkb, hcb, HL, hcs, hb⟩ := hrel
      by_cases hlt : q < j
      · have hql : q < L.length := by have := HLJ.out; omega
        obtain ⟨b, o, rfl⟩ := hc.addr (by rw [vcells_length]; have := HM.out; omega)
        obtain ⟨x0, x1, x2⟩ := (hcj.mono hb (Nat.le_refl _)).vat hql
        obtain ⟨hk0, hk1, hn0, hn1, hs⟩ := HOJ.out L[q] (List.getElem_mem _)
        have hd : L.drop q = L[q] :: L.drop (q + 1) := List.drop_eq_getElem_cons hql
        generalize L[q] = v at x0 x1 x2 hk0 hk1 hn0 hn1 hs hd
        have hb' : bsOf (L.drop q) = putV v ++ bsOf (L.drop (q + 1)) := by rw [hd, bsOf_cons]
        have htk := takeV_put v (bsOf (L.drop (q + 1))) ⟨hn0, hn1⟩
        rw [← hb'] at htk
        have hlen : (bsOf (L.drop (q + 1))).length < kq := by
          have := (putV_length v).1
          have h2 := HL.out
          rw [hb', List.length_append] at h2; omega
        have HTK := Lib.hid htk
        obtain ⟨k, n, s⟩ := v
        simp only at x0 x1 x2
        have hRD : Hid (bsOf (L.drop (q + 1)) = bsOf (L.drop (q + 1))) := Lib.hid rfl
        generalize hrd : bsOf (L.drop (q + 1)) = rest at hlen htk HTK hb'
        have HRD := Lib.hid hrd
        clear hrd hRD
        generalize hcan : canon ⟨k, n, s⟩ = cv at htk HTK
        obtain ⟨ck, cn, cs⟩ := cv
        have HCAN := Lib.hid hcan
        clear hb' htk hd hql hk0 hk1 hn0 hn1 hs hcan
        have hb1 := hb.next ((Below.refl wr.heap.size wr).alloc (Nat.le_refl _) (.cells #[.int .u8 k, .int .i64 n, .string s] 23))
        have X := VAt.new wr ⟨k, n, s⟩
        have hc1 := hcs.mono ((Below.refl wr.heap.size wr).alloc (Nat.le_refl _) (.cells #[.int .u8 k, .int .i64 n, .string s] 23)) (Nat.le_refl _)
        clear hb hcs
        go_wp2_with (first | (at_make; refine Stop.un ?_) | (at_builtin; refine Stop.un ?_) | (with_reducible refine Stop.conv 33 9 ?_) | (with_reducible refine Stop.conv 9 33 ?_))
        refine (take_any aq kq cq _ _ hc1 HL.out (by omega) hcb).mono ?_
        rw [HTK.out]
        rintro e w2 ⟨a2, n2, c2, h2, rfl, o2⟩
        simp only [tkV, tkL, tkE, V.val, Option.isSome_some, if_true] at h2 o2 ⊢
        have hb2 := Own.below o2
        have hb3 := (hb1.next hb2).next ((Below.refl w2.heap.size w2).alloc (Nat.le_refl _) (.cells #[.int .u8 ck, .int .i64 cn, .string cs] 23))
        replace X := (X.mono hb2).mono ((Below.refl w2.heap.size w2).alloc (Nat.le_refl _) (.cells #[.int .u8 ck, .int .i64 cn, .string cs] 23))
        have Y := VAt.new w2 ⟨ck, cn, cs⟩
        have hc2 := (Own.cs o2).mono ((Below.refl w2.heap.size w2).alloc (Nat.le_refl _) (.cells #[.int .u8 ck, .int .i64 cn, .string cs] 23)) (Nat.le_refl _)
        have hle2 := owns_le o2.1
        have hn2 : n2 < kq := by omega
        have H2 := Lib.hid h2
        clear h2 o2 hb2 hb1 hc1 x0 x1 x2
        obtain ⟨x0, x1, x2, xz⟩ := X.open_
        obtain ⟨y0, y1, y2, yz⟩ := Y.open_
        have F1 := Lib.hid (fun W => right_x k n s W)
        have hcmp : decide ((kq : Int) ≤ (n2 : Int)) = false := by simp; omega
        cases hr : rightB ⟨k, n, s⟩ with
        | true =>
          rw [hr] at F1
          have e := HCAN.out
          rw [canon, if_pos hr] at e
          simp only [V.mk.injEq] at e
          obtain ⟨rfl, rfl, rfl⟩ := e
          clear hr
          go_wp2_with (first | (at_make; refine Stop.un ?_) | (at_builtin; refine Stop.un ?_) | (with_reducible refine Stop.conv 33 9 ?_) | (with_reducible refine Stop.conv 9 33 ?_) | (with_reducible refine Stop.eql 23 ?_) | (with_reducible refine Stop.neq 23 ?_))
          refine (F1.out _).mono ?_
          rintro e w3 ⟨rfl, b3⟩
          replace x0 := Ext.cell b3 x0
          replace x1 := Ext.cell b3 x1
          replace x2 := Ext.cell b3 x2
          replace y0 := Ext.cell b3 y0
          replace y1 := Ext.cell b3 y1
          replace y2 := Ext.cell b3 y2
          replace hb3 := hb3.next b3
          replace hc2 := hc2.mono b3 (Nat.le_refl _)
          clear b3
          go_wp2_with (first | (at_make; refine Stop.un ?_) | (at_builtin; refine Stop.un ?_) | (with_reducible refine Stop.conv 33 9 ?_) | (with_reducible refine Stop.conv 9 33 ?_) | (with_reducible refine Stop.eql 23 ?_) | (with_reducible refine Stop.neq 23 ?_))
          refine Stop.mk (wpList_as _ rfl (exec_neV ⟨_, _, _⟩ ⟨_, _, _⟩ rfl rfl _) ?_)
          rw [eqV_refl, Bool.not_true]
          go_wp2_with (first | (at_make; refine Stop.un ?_) | (at_builtin; refine Stop.un ?_) | (with_reducible refine Stop.conv 33 9 ?_) | (with_reducible refine Stop.conv 9 33 ?_) | (with_reducible refine Stop.eql 23 ?_) | (with_reducible refine Stop.neq 23 ?_))
          refine (F1.out _).mono ?_
          rintro e w4 ⟨rfl, b4⟩
          replace x0 := Ext.cell b4 x0
          replace x1 := Ext.cell b4 x1
          replace x2 := Ext.cell b4 x2
          replace y0 := Ext.cell b4 y0
          replace y1 := Ext.cell b4 y1
          replace y2 := Ext.cell b4 y2
          replace hb3 := hb3.next b4
          replace hc2 := hc2.mono b4 (Nat.le_refl _)
          clear b4
          have HR2 := Lib.hid (show _ from H2.out)
          have HC2 := Lib.hid hc2
          clear x0 x1 x2 xz y0 y1 y2 yz X Y
          go_wp2_with (first | (at_make; refine Stop.un ?_) | (at_builtin; refine Stop.un ?_) | (with_reducible refine Stop.conv 33 9 ?_) | (with_reducible refine Stop.conv 9 33 ?_))
          go_roundw
          case rel => exact ⟨q + 1, n2, a2, c2, by omega, by go_num, rfl, by omega, hle2, by rw [HRD.out]; exact HR2.out, by rw [HRD.out]; exact HC2.out, hb3⟩
          case measure => simp [intOf]; omega
        | false =>
          rw [hr] at F1
          have e := HCAN.out
          rw [canon, hr] at e
          simp only [Bool.false_eq_true, if_false, V.zero, V.mk.injEq] at e
          obtain ⟨rfl, rfl, rfl⟩ := e
          clear hr
          go_wp2_with (first | (at_make; refine Stop.un ?_) | (at_builtin; refine Stop.un ?_) | (with_reducible refine Stop.conv 33 9 ?_) | (with_reducible refine Stop.conv 9 33 ?_) | (with_reducible refine Stop.eql 23 ?_) | (with_reducible refine Stop.neq 23 ?_))
          refine (F1.out _).mono ?_
          rintro e w3 ⟨rfl, b3⟩
          replace x0 := Ext.cell b3 x0
          replace x1 := Ext.cell b3 x1
          replace x2 := Ext.cell b3 x2
          replace y0 := Ext.cell b3 y0
          replace y1 := Ext.cell b3 y1
          replace y2 := Ext.cell b3 y2
          replace hb3 := hb3.next b3
          replace hc2 := hc2.mono b3 (Nat.le_refl _)
          clear b3
          go_wp2_with (first | (at_make; refine Stop.un ?_) | (at_builtin; refine Stop.un ?_) | (with_reducible refine Stop.conv 33 9 ?_) | (with_reducible refine Stop.conv 9 33 ?_) | (with_reducible refine Stop.eql 23 ?_) | (with_reducible refine Stop.neq 23 ?_))
          refine (F1.out _).mono ?_
          rintro e w4 ⟨rfl, b4⟩
          replace x0 := Ext.cell b4 x0
          replace x1 := Ext.cell b4 x1
          replace x2 := Ext.cell b4 x2
          replace y0 := Ext.cell b4 y0
          replace y1 := Ext.cell b4 y1
          replace y2 := Ext.cell b4 y2
          replace hb3 := hb3.next b4
          replace hc2 := hc2.mono b4 (Nat.le_refl _)
          clear b4
          go_wp2_with (first | (at_make; refine Stop.un ?_) | (at_builtin; refine Stop.un ?_) | (with_reducible refine Stop.conv 33 9 ?_) | (with_reducible refine Stop.conv 9 33 ?_) | (with_reducible refine Stop.eql 23 ?_) | (with_reducible refine Stop.neq 23 ?_))
          refine Stop.mk (wpList_as _ rfl (exec_neV ⟨0, 0, ByteArray.empty⟩ ⟨0, 0, ⟨#[]⟩⟩ rfl rfl _) ?_)
          rw [show (⟨0, 0, ⟨#[]⟩⟩ : V) = ⟨0, 0, ByteArray.empty⟩ from rfl, eqV_refl, Bool.not_true]
          have HR2 := Lib.hid (show _ from H2.out)
          have HC2 := Lib.hid hc2
          clear x0 x1 x2 xz y0 y1 y2 yz X Y
          go_wp2_with (first | (at_make; refine Stop.un ?_) | (at_builtin; refine Stop.un ?_) | (with_reducible refine Stop.conv 33 9 ?_) | (with_reducible refine Stop.conv 9 33 ?_))
          go_roundw
          case rel => exact ⟨q + 1, n2, a2, c2, by omega, by go_num, rfl, by omega, hle2, by rw [HRD.out]; exact HR2.out, by rw [HRD.out]; exact HC2.out, hb3⟩
          case measure => simp [intOf]; omega
      · have hge : q = j := by omega
        have hnil : bsOf (L.drop q) = [] := by rw [List.drop_of_length_le (by have := HLJ.out; omega)]; rfl
        have hk0 : kq = 0 := by have := HL.out; rw [hnil] at this; simpa using this.symm
        clear HL hcs hnil hlt
        subst hge
        subst hk0
        go_wp2_with (first | (at_make; refine Stop.un ?_) | (at_builtin; refine Stop.un ?_) | (with_reducible refine Stop.conv 33 9 ?_) | (with_reducible refine Stop.conv 9 33 ?_))
        go_ret
        exact ⟨rfl, hb⟩
end Go.Proofs.Ytbikcjjbdgmhpaa
