/- CellAsserts. -/
import Derived.Test.YtbikcjjbdgmhpaaPanics2
import Derived.Test.YtbikcjjbdgmhpaaShown4
set_option linter.unusedVariables false
namespace Go.Proofs.Ytbikcjjbdgmhpaa
open Go.RowKit
set_option maxRecDepth 100000 in
set_option maxHeartbeats 4000000 in
theorem cellAsserts_any (a : V) (w : World) (ha : a.s.size ≤ maxLen) :
    Calls Try.prog 5 #[a.val] w (fun e w' => e = .returned (.bool true) ∧ Below w.heap.size w w') := by
  have hmf : ∀ (fn : Fn) (first cap : Array Value) (w : World), (Instr.makeFunc fn first cap).run Try.prog w = .ok (.func fn first cap) w := fun _ _ _ _ => rfl
  obtain ⟨k, n, s⟩ := a
  unfold maxLen at ha
  simp only [V.val] at ha ⊢
  go_enter Try.func5, Try.ntmps5
  go_wp2_with (first | (at_make; refine Stop.un ?_) | (at_builtin; refine Stop.un ?_) | (with_reducible refine Stop.conv 33 9 ?_) | (with_reducible refine Stop.conv 9 33 ?_))
  refine (shown_any _).mono ?_
  rintro e w1 ⟨rfl, b1⟩
  have Z := (VAt.new w ⟨k, n, s⟩).mono b1
  have B : Below w.heap.size w w1 := ((Below.refl _ _).alloc (Nat.le_refl _) _).next b1
  obtain ⟨e0, e1, e2, hz⟩ := Z.open_
  clear b1
  by_cases hlong : s.size ≤ 3000
  · clear ha
    go_wp2_with (first | (at_make; refine Stop.un ?_) | (at_builtin; refine Stop.un ?_) | (with_reducible refine Stop.conv 33 9 ?_) | (with_reducible refine Stop.conv 9 33 ?_))
    have b4 : Below w1.heap.size w1 ((w1.alloc (.cells #[.int .i64 0] 3)).alloc (.cells #[.string ⟨#[]⟩] 9)) := ((Below.refl _ _).alloc (Nat.le_refl _) _).alloc (by simp) _
    have g4 : ((w1.alloc (.cells #[.int .i64 0] 3)).alloc (.cells #[.string ⟨#[]⟩] 9)).cell? ⟨w1.heap.size, 0, none⟩ = some (.int .i64 0) := by simp
    have g5 : ((w1.alloc (.cells #[.int .i64 0] 3)).alloc (.cells #[.string ⟨#[]⟩] 9)).cell? ⟨w1.heap.size + 1, 0, none⟩ = some (.string ⟨#[]⟩) := by simp
    have f4 : ((w1.alloc (.cells #[.int .i64 0] 3)).alloc (.cells #[.string ⟨#[]⟩] 9)).frozen? ⟨w1.heap.size, 0, none⟩ = false := by simp
    have f5 : ((w1.alloc (.cells #[.int .i64 0] 3)).alloc (.cells #[.string ⟨#[]⟩] 9)).frozen? ⟨w1.heap.size + 1, 0, none⟩ = false := by simp
    have hs4 : ((w1.alloc (.cells #[.int .i64 0] 3)).alloc (.cells #[.string ⟨#[]⟩] 9)).heap.size = w1.heap.size + 2 := by simp
    generalize ((w1.alloc (.cells #[.int .i64 0] 3)).alloc (.cells #[.string ⟨#[]⟩] 9)) = W4 at *
    have Z4 := Z.mono b4
    have B4 := B.next b4
    have HS := Lib.hid hs4
    have HZ := Lib.hid hz
    clear b4 hs4 B Z e0 e1 e2 hz
    refine (panics_no 19 _ _ ⟨w1.heap.size, 0, none⟩ (.int .i64 n) (by have := HS.out; simp; omega) (fun _ => by kernel_rfl) (fun x hx => asserts1_any _ _ ⟨k, n, s⟩ x (Z4.mono hx) ⟨_, Ext.cell hx g4⟩ ((hx.frozen (p := ⟨w1.heap.size, 0, none⟩) (by have := HS.out; simp; omega)).trans f4))).mono ?_
    rintro e w5 ⟨rfl, b5⟩
    have hne : w.heap.size ≠ w1.heap.size := by have := HZ.out; omega
    have hlt4 : w1.heap.size < W4.heap.size := by have := HS.out; omega
    have hlt5 : w1.heap.size + 1 < W4.heap.size := by have := HS.out; omega
    have B5 : Below w.heap.size w w5 := (B4.setCell (p := ⟨w1.heap.size, 0, none⟩) (by have := HZ.out; simp; omega) _).trans (b5.mono B4.size)
    have Z5 : VAt w5 w.heap.size ⟨k, n, s⟩ := Z4.over ⟨w1.heap.size, 0, none⟩ _ hne b5
    have c4 : w5.cell? ⟨w1.heap.size, 0, none⟩ = some (.int .i64 n) := (b5.cell (p := ⟨w1.heap.size, 0, none⟩) hlt4).trans (World.cell?_setCell_same' _ _ _ (by rw [g4]; rfl))
    have c5 : w5.cell? ⟨w1.heap.size + 1, 0, none⟩ = some (.string ⟨#[]⟩) := (b5.cell (p := ⟨w1.heap.size + 1, 0, none⟩) hlt5).trans ((World.cell?_setCell_other _ _ _ _ (fun e => by simp at e)).trans g5)
    have f5' : w5.frozen? ⟨w1.heap.size + 1, 0, none⟩ = false := (b5.frozen (p := ⟨w1.heap.size + 1, 0, none⟩) hlt5).trans (by rw [World.frozen?_setCell]; exact f5)
    have hle5 : W4.heap.size ≤ w5.heap.size := by have := b5.size; simpa [World.setCell] using this
    clear b5 B4 Z4 g4 g5 f4 f5
    go_wp2_with (first | (at_make; refine Stop.un ?_) | (at_builtin; refine Stop.un ?_) | (with_reducible refine Stop.conv 33 9 ?_) | (with_reducible refine Stop.conv 9 33 ?_))
    refine (panics_no 21 _ _ ⟨w1.heap.size + 1, 0, none⟩ (.string s) (by simp; omega) (fun _ => by kernel_rfl) (fun x hx => asserts2_any _ _ ⟨k, n, s⟩ x (Z5.mono hx) ⟨_, Ext.cell hx c5⟩ ((hx.frozen (p := ⟨w1.heap.size + 1, 0, none⟩) (by simp; omega)).trans f5'))).mono ?_
    rintro e w6 ⟨rfl, b6⟩
    have hne' : w.heap.size ≠ w1.heap.size + 1 := by have := HZ.out; omega
    have B6 : Below w.heap.size w w6 := (B5.setCell (p := ⟨w1.heap.size + 1, 0, none⟩) (by have := HZ.out; simp; omega) _).trans (b6.mono B5.size)
    have Z6 : VAt w6 w.heap.size ⟨k, n, s⟩ := Z5.over ⟨w1.heap.size + 1, 0, none⟩ _ hne' b6
    have d4 : w6.cell? ⟨w1.heap.size, 0, none⟩ = some (.int .i64 n) := (b6.cell (p := ⟨w1.heap.size, 0, none⟩) (by simp; omega)).trans ((World.cell?_setCell_other _ _ _ _ (fun e => by simp at e)).trans c4)
    have d5 : w6.cell? ⟨w1.heap.size + 1, 0, none⟩ = some (.string s) := (b6.cell (p := ⟨w1.heap.size + 1, 0, none⟩) (by simp; omega)).trans (World.cell?_setCell_same' _ _ _ (by rw [c5]; rfl))
    clear b6 B5 Z5 c4 c5 f5' hne hne' hlt4 hlt5 hle5 HS W4
    obtain ⟨e0, e1, e2, hz⟩ := Z6.open_
    have hn1 : (n != n) = false := by simp
    have hn2 : (!s.toList == s.toList) = false := by simp
    go_wp2_with (first | (at_make; refine Stop.un ?_) | (at_builtin; refine Stop.un ?_) | (with_reducible refine Stop.conv 33 9 ?_) | (with_reducible refine Stop.conv 9 33 ?_))
    refine Stop.mk (wpList_tobytes Try.underlying9 Try.underlying33 Try.underlying5 _ rfl rfl rfl ?_)
    intro a7 c7 w7 _ b7
    have B7 := B6.next b7
    have Z7 := Z6.mono b7
    clear B6 Z6 b7 d4 d5 e0 e1 e2 hz
    go_wp2_with (first | (at_make; refine Stop.un ?_) | (at_builtin; refine Stop.un ?_) | (with_reducible refine Stop.conv 33 9 ?_) | (with_reducible refine Stop.conv 9 33 ?_))
    have kc : Cs (w7.alloc (.cells #[.nilIface, .iface 23 (.agg #[.int .u8 k, .int .i64 n, .string s]), .iface 4 (.bool (n == 0)), .iface 2 (.int .i64 n), .iface 33 (.slice a7 s.size c7)] 20)) (some ⟨w7.heap.size, 0, none⟩) _ :=
      Own.cs (Own.block (w0 := w7) (w := w7) (e := 20) (size := 1) (n := 5) (Below.refl _ _) rfl (by decide))
    have hN : ∀ x ∈ [Value.nilIface, .iface 23 (.agg #[.int .u8 k, .int .i64 n, .string s]), .iface 4 (.bool (n == 0)), .iface 2 (.int .i64 n), .iface 33 (.slice a7 s.size c7)], NoNum x := by
      intro x hx
      simp only [List.mem_cons, List.not_mem_nil, or_false] at hx
      rcases hx with rfl | rfl | rfl | rfl | rfl
      · exact .inl rfl
      all_goals exact .inr ⟨_, _, rfl, by decide, by decide⟩
    have hl5 : ([Value.nilIface, .iface 23 (.agg #[.int .u8 k, .int .i64 n, .string s]), .iface 4 (.bool (n == 0)), .iface 2 (.int .i64 n), .iface 33 (.slice a7 s.size c7)]).length = 5 := rfl
    have B8 := B7.next ((Below.refl w7.heap.size w7).alloc (Nat.le_refl _) (.cells #[.nilIface, .iface 23 (.agg #[.int .u8 k, .int .i64 n, .string s]), .iface 4 (.bool (n == 0)), .iface 2 (.int .i64 n), .iface 33 (.slice a7 s.size c7)] 20))
    have Z8 := Z7.mono ((Below.refl w7.heap.size w7).alloc (Nat.le_refl _) (.cells #[.nilIface, .iface 23 (.agg #[.int .u8 k, .int .i64 n, .string s]), .iface 4 (.bool (n == 0)), .iface 2 (.int .i64 n), .iface 33 (.slice a7 s.size c7)] 20))
    generalize (w7.alloc (.cells #[.nilIface, .iface 23 (.agg #[.int .u8 k, .int .i64 n, .string s]), .iface 4 (.bool (n == 0)), .iface 2 (.int .i64 n), .iface 33 (.slice a7 s.size c7)] 20)) = W8 at *
    generalize hLL : [Value.nilIface, .iface 23 (.agg #[.int .u8 k, .int .i64 n, .string s]), .iface 4 (.bool (n == 0)), .iface 2 (.int .i64 n), .iface 33 (.slice a7 s.size c7)] = LL at kc hN hl5
    have HNN := Lib.hid hN
    have HL5 := Lib.hid hl5
    clear hLL hN hl5 B7 Z7 hn1 hn2
    go_loopw [51] (fun i wr => ∃ j : Nat, j ≤ 5 ∧ i = .int .i64 (j : Int) ∧ Below W8.heap.size W8 wr) (fun i _ => 5 - (intOf i).toNat)
    case atStart => exact ⟨0, by omega, rfl, Below.refl _ _⟩
    case round =>
      obtain ⟨j, hj, rfl, hb⟩ := hrel
      by_cases hlt : j < 5
      · have hjl : j < LL.length := by have := HL5.out; omega
        have hcell := (kc.mono hb (Nat.le_refl _)).at (j := j) (List.getElem?_eq_getElem hjl)
        have hx := HNN.out LL[j] (List.getElem_mem _)
        rw [Nat.zero_add] at hcell
        generalize LL[j] = x at hcell hx
        have HX := Lib.hid hx
        have B9 := B8.next hb
        have b8 := Lib.hid hb
        clear hjl hb
        rcases hx with rfl | ⟨u, v, rfl, hu1, hu2⟩
        · skip
          go_wp2_with (first | (at_make; refine Stop.un ?_) | (at_builtin; refine Stop.un ?_) | (with_reducible refine Stop.conv 33 9 ?_) | (with_reducible refine Stop.conv 9 33 ?_))
          have nc : (wr.alloc (.cells #[.nilIface] 20)).cell? ⟨wr.heap.size, 0, none⟩ = some (.nilIface) := by simp
          refine (panics_yes 23 _ _ (fun _ => by kernel_rfl) (fun x hx => asserts3_any _ _ x (Ext.cell hx nc) HX.out)).mono ?_
          rintro e w9 ⟨rfl, b9⟩
          replace nc := Ext.cell b9 nc
          go_wp2_with (first | (at_make; refine Stop.un ?_) | (at_builtin; refine Stop.un ?_) | (with_reducible refine Stop.conv 33 9 ?_) | (with_reducible refine Stop.conv 9 33 ?_))
          refine (panics_yes 24 _ _ (fun _ => by kernel_rfl) (fun x hx => asserts4_any _ _ x (Ext.cell hx nc) HX.out)).mono ?_
          rintro e w10 ⟨rfl, b10⟩
          have b11 := b8.out.next (((Below.refl wr.heap.size wr).alloc (Nat.le_refl _) _).next (b9.next b10))
          clear nc b9 b10 hcell B9 b8
          go_wp2_with (first | (at_make; refine Stop.un ?_) | (at_builtin; refine Stop.un ?_) | (with_reducible refine Stop.conv 33 9 ?_) | (with_reducible refine Stop.conv 9 33 ?_))
          go_roundw
          case rel => exact ⟨j + 1, by omega, by go_num, b11⟩
          case measure => simp [intOf]; omega
        · clear hu1 hu2
          go_wp2_with (first | (at_make; refine Stop.un ?_) | (at_builtin; refine Stop.un ?_) | (with_reducible refine Stop.conv 33 9 ?_) | (with_reducible refine Stop.conv 9 33 ?_))
          have nc : (wr.alloc (.cells #[.iface u v] 20)).cell? ⟨wr.heap.size, 0, none⟩ = some (.iface u v) := by simp
          refine (panics_yes 23 _ _ (fun _ => by kernel_rfl) (fun x hx => asserts3_any _ _ x (Ext.cell hx nc) HX.out)).mono ?_
          rintro e w9 ⟨rfl, b9⟩
          replace nc := Ext.cell b9 nc
          go_wp2_with (first | (at_make; refine Stop.un ?_) | (at_builtin; refine Stop.un ?_) | (with_reducible refine Stop.conv 33 9 ?_) | (with_reducible refine Stop.conv 9 33 ?_))
          refine (panics_yes 24 _ _ (fun _ => by kernel_rfl) (fun x hx => asserts4_any _ _ x (Ext.cell hx nc) HX.out)).mono ?_
          rintro e w10 ⟨rfl, b10⟩
          have b11 := b8.out.next (((Below.refl wr.heap.size wr).alloc (Nat.le_refl _) _).next (b9.next b10))
          clear nc b9 b10 hcell B9 b8
          go_wp2_with (first | (at_make; refine Stop.un ?_) | (at_builtin; refine Stop.un ?_) | (with_reducible refine Stop.conv 33 9 ?_) | (with_reducible refine Stop.conv 9 33 ?_))
          go_roundw
          case rel => exact ⟨j + 1, by omega, by go_num, b11⟩
          case measure => simp [intOf]; omega
      · have hge : j = 5 := by omega
        subst hge
        have Z9 := Z8.mono hb
        have B9 := B8.next hb
        clear hlt hj hb kc B8 Z8
        go_wp2_with (first | (at_make; refine Stop.un ?_) | (at_builtin; refine Stop.un ?_) | (with_reducible refine Stop.conv 33 9 ?_) | (with_reducible refine Stop.conv 9 33 ?_))
        refine (panics_yes 25 _ _ (fun _ => by kernel_rfl) (fun x hx => asserts5_any _ ⟨k, n, s⟩ x (Z9.mono hx))).mono ?_
        rintro e w12 ⟨rfl, b12⟩
        replace Z9 := Z9.mono b12
        replace B9 := B9.next b12
        clear b12
        go_wp2_with (first | (at_make; refine Stop.un ?_) | (at_builtin; refine Stop.un ?_) | (with_reducible refine Stop.conv 33 9 ?_) | (with_reducible refine Stop.conv 9 33 ?_))
        refine (panics_yes 26 _ _ (fun _ => by kernel_rfl) (fun x hx => asserts6_any _ ⟨k, n, s⟩ x (Z9.mono hx))).mono ?_
        rintro e w13 ⟨rfl, b13⟩
        replace B9 := B9.next b13
        clear b13 Z9
        go_wp2_with (first | (at_make; refine Stop.un ?_) | (at_builtin; refine Stop.un ?_) | (with_reducible refine Stop.conv 33 9 ?_) | (with_reducible refine Stop.conv 9 33 ?_))
        go_ret
        exact ⟨rfl, B9⟩
  · have hl : 3000 < s.size := by omega
    clear hlong
    go_wp2_with (first | (at_make; refine Stop.un ?_) | (at_builtin; refine Stop.un ?_) | (with_reducible refine Stop.conv 33 9 ?_) | (with_reducible refine Stop.conv 9 33 ?_))
    go_ret
    exact ⟨rfl, B⟩
end Go.Proofs.Ytbikcjjbdgmhpaa
