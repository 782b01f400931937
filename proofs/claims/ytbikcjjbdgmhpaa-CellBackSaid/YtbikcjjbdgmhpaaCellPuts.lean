/- CellPuts. -/
import Derived.Test.YtbikcjjbdgmhpaaCRPut
import Derived.Test.YtbikcjjbdgmhpaaCRTake
import Derived.Test.YtbikcjjbdgmhpaaShutV
import Derived.Test.YtbikcjjbdgmhpaaShown4
set_option linter.unusedVariables false
namespace Go.Proofs.Ytbikcjjbdgmhpaa
open Go.RowKit
theorem owns_max' {w : World} {base e size n n' : Nat} {ao : Option Addr} {cap : Nat} {xs : List Value} (h : w.ownsRow base e size (.slice ao n' cap) n xs) : cap ≤ maxLen := by
  rcases h.2 with ⟨h', h0⟩ | ⟨g, cap', cur, h', _, _, hn, hm, _⟩
  · simp only [Value.slice.injEq] at h'; omega
  · simp only [Value.slice.injEq] at h'; omega
theorem eqV_refl (a : V) : eqV a a = true := eqV_iff.2 rfl
theorem putx (ao : Option Addr) (m cap : Nat) (bs : List UInt8) (k n : Int) (s : ByteArray) (w : World) (hc : Cs w ao (bcells bs)) (hm : bs.length = m) (hl : m ≤ 140737488350000) (hn : -9223372036854775808 ≤ n ∧ n ≤ 9223372036854775807) :
    Calls Try.prog 36 #[.slice ao m cap, .agg #[.int .u8 k, .int .i64 n, .string s]] w (RetB w (bs ++ putV ⟨k, n, s⟩)) := put_any ao m cap bs ⟨k, n, s⟩ w hc hm hl hn
theorem rputx (ao : Option Addr) (m cap : Nat) (bs : List UInt8) (k n : Int) (s : ByteArray) (w : World) (hc : Cs w ao (bcells bs)) (hm : bs.length = m) (hl : m ≤ 140737488350000) (hn : -9223372036854775808 ≤ n ∧ n ≤ 9223372036854775807) :
    Calls Try.prog 37 #[.slice ao m cap, .agg #[.int .u8 k, .int .i64 n, .string s]] w (RetB w (bs ++ putV ⟨k, n, s⟩)) := rput_any ao m cap bs ⟨k, n, s⟩ w hc hm hl hn
theorem Own.same {w0 w w' : World} {e size n : Nat} {v : Value} {xs : List Value} (h : Own w0 w e size v n xs) (hb : ∀ k, v.ownBlock = some k → w'.heap[k]? = w.heap[k]?) (hB : Below w0.heap.size w0 w') : Own w0 w' e size v n xs := by
  obtain ⟨⟨h1, h2⟩, _⟩ := h
  refine ⟨⟨h1, ?_⟩, hB⟩
  rcases h2 with h2 | ⟨g, cap, cur, hv, hg, hh, r⟩
  · exact .inl h2
  · exact .inr ⟨g, cap, cur, hv, hg, (hb g (by rw [hv]; rfl)).trans hh, r⟩
theorem OwnB.num {w0 w : World} {v : Value} {n : Nat} {l : List UInt8} (h : OwnB w0 w v n l) : NumRow .u8 w w0.heap.size 5 v n := ⟨bcells l, fun u hu => by obtain ⟨b, _, rfl⟩ := List.mem_map.1 hu; exact ⟨_, rfl⟩, h.1⟩
set_option maxRecDepth 100000 in
set_option maxHeartbeats 4000000 in
theorem cellPuts_any (ao : Option Addr) (m0 cap : Nat) (bs0 : List UInt8) (a : V) (w : World) (hc0 : Cs w ao (bcells bs0)) (hm0 : bs0.length = m0) (hl0 : m0 ≤ cap) (hcm : cap ≤ maxLen) (ha : a.ok) :
    Calls Try.prog 8 #[.slice ao m0 cap, a.val] w (fun e w' => e = .returned (.bool true) ∧ Below w.heap.size w w') := by
  have hmf : ∀ (fn : Fn) (first cap : Array Value) (w : World), (Instr.makeFunc fn first cap).run Try.prog w = .ok (.func fn first cap) w := fun _ _ _ _ => rfl
  clear hmf
  obtain ⟨k, n, s⟩ := a
  obtain ⟨hk0, hk1, hn0, hn1, hs⟩ := ha
  unfold maxLen at hs hcm
  simp only [V.val] at hn0 hn1 hs ⊢
  have HN := Lib.hid (And.intro hn0 hn1)
  clear hk0 hk1 hn0 hn1
  go_enter Try.func8, Try.ntmps8
  go_wp2_with (first | (at_make; refine Stop.un ?_) | (at_builtin; refine Stop.un ?_) | (with_reducible refine Stop.conv 33 9 ?_) | (with_reducible refine Stop.conv 9 33 ?_))
  refine (shown_any _).mono ?_
  rintro e w1 ⟨rfl, b1⟩
  have Z := (VAt.new w ⟨k, n, s⟩).mono b1
  have B : Below w.heap.size w w1 := ((Below.refl _ _).alloc (Nat.le_refl _) _).next b1
  obtain ⟨e0, e1, e2, hz⟩ := Z.open_
  clear b1
  by_cases hlong : s.size ≤ 3000
  · have hc := hc0.take (min m0 3000)
    rw [bcells_take] at hc
    have hm : (bs0.take (min m0 3000)).length = min m0 3000 := by rw [List.length_take, hm0]; omega
    have hmin : (min (m0 : Int) 3000) = ((min m0 3000 : Nat) : Int) := by omega
    have hl : min m0 3000 ≤ cap := by omega
    have hl3 : min m0 3000 ≤ 3000 := by omega
    go_upto_region 5 with fail
    generalize bs0.take (min m0 3000) = bs at hc hm
    generalize min m0 3000 = m at hm hl hl3 ⊢
    have Hm := Lib.hid hm
    have C1 := hc.mono B (Nat.le_refl _)
    have HC := Lib.hid hc
    clear hc0 hm0 hl0 hm hmin hs e0 e1 e2 hz hc
    go_wp2_with (first | (at_make; refine Stop.un ?_) | (at_builtin; refine Stop.un ?_) | (with_reducible refine Stop.conv 33 9 ?_) | (with_reducible refine Stop.conv 9 33 ?_))
    refine Stop.mk (wpList_conv Try.underlying33 Try.underlying5 Try.underlying9 _ rfl rfl rfl Hm.out C1 ?_)
    obtain ⟨e0, e1, e2, hz⟩ := Z.open_
    go_wp2_with (first | (at_make; refine Stop.un ?_) | (at_builtin; refine Stop.un ?_) | (with_reducible refine Stop.conv 33 9 ?_) | (with_reducible refine Stop.conv 9 33 ?_))
    refine (putx _ _ _ bs _ _ _ _ C1 Hm.out (by omega) HN.out).mono ?_
    rintro e w2 ⟨a2, n2, c2, h2, rfl, o2⟩
    have hb2 := Own.below o2
    have hbw1 := B.size
    have H2 := Lib.hid h2
    have B2 := B.next hb2
    replace Z := Z.mono hb2
    clear e0 e1 e2 hz C1 B h2
    obtain ⟨e0, e1, e2, hz⟩ := Z.open_
    have C2 := HC.out.mono B2 (Nat.le_refl _)
    have K2 := Own.cs o2
    go_wp2_with (first | (at_make; refine Stop.un ?_) | (at_builtin; refine Stop.un ?_) | (with_reducible refine Stop.conv 33 9 ?_) | (with_reducible refine Stop.conv 9 33 ?_))
    refine mix_startE 8 rfl (by kernel_rfl) ?_
    intro xq hxq
    replace o2 := Own.keep o2 hxq
    replace e0 := Ext.cell hxq e0
    replace e1 := Ext.cell hxq e1
    replace e2 := Ext.cell hxq e2
    replace Z := VAt.mono Z hxq
    replace B2 := Below.next B2 hxq
    replace C2 := Cs.mono C2 hxq (Nat.le_refl _)
    replace K2 := Cs.mono K2 hxq (Nat.le_refl _)
    clear hxq hb2
    refine mix_quiet Keeps.ext 0 rfl (by kernel_rfl) rfl ?_
    intro ι U hne hU
    go_big_quiet_op
    clear hU hne U ι
    show wpAnyM _ _ _ _ _ _ _ _ _
    refine mix_quiet Keeps.ext 1 rfl (by kernel_rfl) rfl ?_
    intro ι U hne hU
    have hcv := fun ii => run_conv_cs (P := Try.prog) (w := U ii) Try.underlying33 Try.underlying5 Try.underlying9 (cap := c2) H2.out (Cs.mono K2 (hU ii) (Nat.le_refl _))
    go_big_quiet_op
    clear hU hne hcv U ι
    show wpAnyM _ _ _ _ _ _ _ _ _
    refine mix_quiet Keeps.ext 2 rfl (by kernel_rfl) rfl ?_
    intro ι U hne hU
    go_big_quiet_op
    clear hU hne U ι
    show wpAnyM _ _ _ _ _ _ _ _ _
    refine mix_quiet Keeps.ext 3 rfl (by kernel_rfl) rfl ?_
    intro ι U hne hU
    have hcw0 := fun ii => (hU ii).cell e0
    have hcw1 := fun ii => (hU ii).cell e1
    have hcw2 := fun ii => (hU ii).cell e2
    go_big_quiet_op
    clear hU hne hcw0 hcw1 hcw2 U ι
    show wpAnyM _ _ _ _ _ _ _ _ _
    refine mix_any 4 rfl (by kernel_rfl) rfl ?_
    go_wp2_with (first | (at_make; refine Stop.un ?_) | (at_builtin; refine Stop.un ?_) | (with_reducible refine Stop.conv 33 9 ?_) | (with_reducible refine Stop.conv 9 33 ?_))
    refine (rputx _ _ _ bs _ _ _ _ C2 Hm.out (by omega) HN.out).mono ?_
    rintro e w3 ⟨a3, n3, c3, h3, rfl, o3⟩
    have H3 := Lib.hid h3
    have b3 := Own.below o3
    have K3 := Own.cs o3
    clear h3 o3
    go_wp2_with (first | (at_make; refine Stop.un ?_) | (at_builtin; refine Stop.un ?_) | (with_reducible refine Stop.conv 33 9 ?_) | (with_reducible refine Stop.conv 9 33 ?_))
    refine MixPost.mk b3 ?_
    replace o2 := Own.keep o2 b3
    replace e0 := Ext.cell b3 e0
    replace e1 := Ext.cell b3 e1
    replace e2 := Ext.cell b3 e2
    replace Z := VAt.mono Z b3
    replace B2 := Below.next B2 b3
    replace C2 := Cs.mono C2 b3 (Nat.le_refl _)
    replace K2 := Cs.mono K2 b3 (Nat.le_refl _)
    clear b3
    refine mix_quiet Keeps.ext 5 rfl (by kernel_rfl) rfl ?_
    intro ι U hne hU
    have hcv := fun ii => run_conv_cs (P := Try.prog) (w := U ii) Try.underlying33 Try.underlying5 Try.underlying9 (cap := c3) H3.out (Cs.mono K3 (hU ii) (Nat.le_refl _))
    go_big_quiet_op
    clear hU hne hcv U ι
    show wpAnyM _ _ _ _ _ _ _ _ _
    refine mix_quiet Keeps.ext 6 rfl (by kernel_rfl) rfl ?_
    intro ι U hne hU
    go_big_quiet_op
    clear hU hne U ι
    show wpAnyM _ _ _ _ _ _ _ _ _
    refine mix_quiet Keeps.ext 7 rfl (by kernel_rfl) rfl ?_
    intro ι U hne hU
    go_big_quiet_op
    clear hU hne U ι
    show wpAnyM _ _ _ _ _ _ _ _ _
    refine mix_end (by kernel_rfl) ?_
    clear K3 e0 e1 e2 hz
    clear K2
    go_wp2_with (first | (at_make; refine Stop.un ?_) | (at_builtin; refine Stop.un ?_) | (with_reducible refine Stop.conv 33 9 ?_) | (with_reducible refine Stop.conv 9 33 ?_))
    refine (take_any _ _ _ bs _ C2 Hm.out (by omega) hl).mono ?_
    rintro e w4 ⟨a4, n4, c4, h4, rfl, o4⟩
    have b4 := Own.below o4
    have H4 := Lib.hid h4
    have B4 := B2.next b4
    have O2 := Own.keep o2 b4
    have HS4 : Hid (∀ j, (Value.slice a2 n2 c2).ownBlock = some j → j < w3.heap.size) := Lib.hid (Own.lt o2)
    replace C2 := C2.mono b4 (Nat.le_refl _)
    have HB4 := Lib.hid b4.size
    have HV13 := Lib.hid (Own.le o2)
    have HW3 := Lib.hid B2.size
    have HW1 := Lib.hid hbw1
    clear b4 h4 o2 B2 Z hbw1
    have Y := VAt.new w4 (tkV (takeV bs))
    have y1 := (Below.refl w4.heap.size w4).alloc (Nat.le_refl _) (.cells #[.int .u8 (tkV (takeV bs)).k, .int .i64 (tkV (takeV bs)).n, .string (tkV (takeV bs)).s] 23)
    replace o4 := Own.keep o4 y1
    replace O2 := Own.keep O2 y1
    replace B4 := B4.next y1
    replace C2 := C2.mono y1 (Nat.le_refl _)
    have HT4 := Lib.hid y1.size
    clear y1
    simp only [V.val]
    go_wp2_with (first | (at_make; refine Stop.un ?_) | (at_builtin; refine Stop.un ?_) | (with_reducible refine Stop.conv 33 9 ?_) | (with_reducible refine Stop.conv 9 33 ?_))
    refine (rtake_any _ _ _ bs _ C2 Hm.out (by omega) hl).mono ?_
    rintro e w5 ⟨a5, n5, c5, h5, _, _, rfl, k5, b5, _⟩
    have H5 := Lib.hid h5
    replace B4 := B4.next b5
    replace o4 := Own.keep o4 b5
    replace O2 := Own.keep O2 b5
    replace Y := Y.mono b5
    have X := VAt.new w5 (tkV (takeV bs))
    have x1 := (Below.refl w5.heap.size w5).alloc (Nat.le_refl _) (.cells #[.int .u8 (tkV (takeV bs)).k, .int .i64 (tkV (takeV bs)).n, .string (tkV (takeV bs)).s] 23)
    replace o4 := Own.keep o4 x1
    replace O2 := Own.keep O2 x1
    replace B4 := B4.next x1
    replace k5 := k5.mono x1 (Nat.le_refl _)
    replace Y := Y.mono x1
    clear x1 h5 C2 b5
    generalize tkV (takeV bs) = T at *
    generalize tkE (takeV bs) = E4 at *
    generalize tkL (takeV bs) = L4 at *
    obtain ⟨x0, x1, x2, xz⟩ := X.open_
    obtain ⟨y0, y1, y2, yz⟩ := Y.open_
    simp only [V.val]
    go_wp2_with (first | (at_make; refine Stop.un ?_) | (at_builtin; refine Stop.un ?_) | (with_reducible refine Stop.conv 33 9 ?_) | (with_reducible refine Stop.conv 9 33 ?_) | (with_reducible refine Stop.eql 23 ?_) | (with_reducible refine Stop.neq 23 ?_))
    refine Stop.mk (wpList_as _ rfl (exec_eqV T T rfl rfl _) ?_)
    rw [eqV_refl]
    clear x0 x1 x2 xz y0 y1 y2 yz X Y
    have hE : (E4 == E4) = true := by simp
    have hst : ((strOf L4).toList == (strOf L4).toList) = true := by simp
    go_wp2_with (first | (at_make; refine Stop.un ?_) | (at_builtin; refine Stop.un ?_) | (with_reducible refine Stop.conv 33 9 ?_) | (with_reducible refine Stop.conv 9 33 ?_))
    refine Stop.mk (wpList_conv Try.underlying33 Try.underlying5 Try.underlying9 _ rfl rfl rfl H4.out (Own.cs o4) ?_)
    go_wp2_with (first | (at_make; refine Stop.un ?_) | (at_builtin; refine Stop.un ?_) | (with_reducible refine Stop.conv 33 9 ?_) | (with_reducible refine Stop.conv 9 33 ?_))
    refine Stop.mk (wpList_conv Try.underlying33 Try.underlying5 Try.underlying9 _ rfl rfl rfl H5.out k5 ?_)
    clear k5 H5
    go_wp2_with (first | (at_make; refine Stop.un ?_) | (at_builtin; refine Stop.un ?_) | (with_reducible refine Stop.conv 33 9 ?_) | (with_reducible refine Stop.conv 9 33 ?_))
    have N4 := OwnB.num o4
    have hn4 : n4 ≤ 9223372036854775807 := by have := owns_le o4.1; have := owns_max' o4.1; unfold maxLen at this; omega
    have hn2 : n2 ≤ 9223372036854775807 := by have := owns_le O2.1; have := owns_max' O2.1; unfold maxLen at this; omega
    have hw13 : w1.heap.size ≤ w3.heap.size := HV13.out
    have HW13 := Lib.hid hw13
    clear o4 hw13 hE hst
    generalize (w5.alloc _) = W6 at *
    go_loopw [73] (fun i wr => ∃ j : Nat, j ≤ n4 ∧ i = .int .i64 (j : Int) ∧ NumRow .u8 wr w3.heap.size 5 (.slice a4 n4 c4) n4 ∧ Below w3.heap.size W6 wr) (fun i _ => n4 - (intOf i).toNat)
    case atStart => exact ⟨0, by omega, rfl, N4, Below.refl _ _⟩
    case round =>
      clear N4
      obtain ⟨j, hj, rfl, hN, hb⟩ := hrel
      by_cases hlt : j < n4
      · obtain ⟨g, z, rfl, hg, hcell, hfree, hset⟩ := hN.at hlt
        have HSET := Lib.hid hset
        clear hN hset
        go_wp2_with (first | (at_make; refine Stop.un ?_) | (at_builtin; refine Stop.un ?_) | (with_reducible refine Stop.conv 33 9 ?_) | (with_reducible refine Stop.conv 9 33 ?_))
        go_roundw
        case rel => exact ⟨j + 1, by omega, by go_num, HSET.out _, hb.setCell (p := ⟨g, j, none⟩) hg _⟩
        case measure => simp [intOf]; omega
      · have O2' : OwnB w1 wr (.slice a2 n2 c2) n2 _ := Own.same O2 (fun k hk => hb.block k (HS4.out k hk)) ((Own.below O2).trans (hb.mono HW13.out))
        have N2 := OwnB.num O2'
        have B5 : Below w.heap.size w wr := B4.trans (hb.mono (by have := HW3.out; omega))
        have hge : j = n4 := by omega
        clear hN hb O2 O2' B4 hlt
        subst hge
        go_wp2_with fail
        obtain ⟨W7, rfl⟩ : ∃ W7 : World, W7 = wr := ⟨_, rfl⟩
        go_loopw [85] (fun i wr => ∃ j : Nat, j ≤ n2 ∧ i = .int .i64 (j : Int) ∧ NumRow .u8 wr w1.heap.size 5 (.slice a2 n2 c2) n2 ∧ Below w1.heap.size W7 wr) (fun i _ => n2 - (intOf i).toNat)
        case atStart => exact ⟨0, by omega, rfl, N2, Below.refl _ _⟩
        case round =>
          clear N2
          obtain ⟨i, hi, rfl, hN, hb⟩ := hrel
          by_cases hlt : i < n2
          · obtain ⟨g, z, rfl, hg, hcell, hfree, hset⟩ := hN.at hlt
            have HSET := Lib.hid hset
            clear hN hset
            go_wp2_with (first | (at_make; refine Stop.un ?_) | (at_builtin; refine Stop.un ?_) | (with_reducible refine Stop.conv 33 9 ?_) | (with_reducible refine Stop.conv 9 33 ?_))
            go_roundw
            case rel => exact ⟨i + 1, by omega, by go_num, HSET.out _, hb.setCell (p := ⟨g, i, none⟩) hg _⟩
            case measure => simp [intOf]; omega
          · have B6 : Below w.heap.size w wr := B5.trans (hb.mono HW1.out)
            have C6 := HC.out.mono B6 (Nat.le_refl _)
            have hge : i = n2 := by omega
            clear hN hb B5 hlt
            subst hge
            go_wp2_with (first | (at_make; refine Stop.un ?_) | (at_builtin; refine Stop.un ?_) | (with_reducible refine Stop.conv 33 9 ?_) | (with_reducible refine Stop.conv 9 33 ?_))
            refine Stop.mk (wpList_conv Try.underlying33 Try.underlying5 Try.underlying9 _ rfl rfl rfl Hm.out C6 ?_)
            go_wp2_with (first | (at_make; refine Stop.un ?_) | (at_builtin; refine Stop.un ?_) | (with_reducible refine Stop.conv 33 9 ?_) | (with_reducible refine Stop.conv 9 33 ?_))
            go_ret
            exact ⟨by simp, B6⟩
  · have hl : 3000 < s.size := by omega
    clear hlong
    go_wp2_with (first | (at_make; refine Stop.un ?_) | (at_builtin; refine Stop.un ?_) | (with_reducible refine Stop.conv 33 9 ?_) | (with_reducible refine Stop.conv 9 33 ?_))
    go_ret
    exact ⟨rfl, B⟩
end Go.Proofs.Ytbikcjjbdgmhpaa
