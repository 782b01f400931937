/- What Right and the reference's Right return. -/
import Derived.Test.YtbiniecjenencaaUnbox
set_option linter.unusedVariables false
set_option linter.unusedSimpArgs false
set_option maxRecDepth 10000
namespace Go.Proofs.Ytbiniecjenencaa
open Go.RowKit
/-- May a value be? -/
def rightP (a : V) : Prop := (a.k = 0 ∧ a.n = 0 ∧ a.s.toList = []) ∨ (a.k = 1 ∧ (a.n = 0 ∨ a.n = 1) ∧ a.s.toList = []) ∨ (a.k = 2 ∧ a.s.toList = []) ∨ (a.k = 3 ∧ a.n = 0 ∧ a.s.size ≤ 1024)
instance (a : V) : Decidable (rightP a) := by unfold rightP; infer_instance
def rightB (a : V) : Bool := decide (rightP a)
theorem emp {s : ByteArray} (h : s.toList = []) : s = ByteArray.empty := by
  rw [ByteArray.toList_eq] at h
  cases s with
  | mk d => simp at h; subst h; rfl
theorem emp_toList : ByteArray.empty.toList = [] := by rw [ByteArray.toList_eq]; rfl
theorem size_toList (s : ByteArray) : s.toList.length = s.size := by rw [ByteArray.toList_eq, Array.length_toList]; rfl
/-- The kinds of values, as Box tells them apart. -/
theorem box_cases (a : V) : (a = ⟨1, 0, ByteArray.empty⟩ ∨ a = ⟨1, 1, ByteArray.empty⟩ ∨ (∃ n, a = ⟨2, n, ByteArray.empty⟩) ∨ (∃ s, s.size ≤ 1024 ∧ a = ⟨3, 0, s⟩)) ∨ (boxV a = .nilIface ∧ ((a = V.zero ∧ rightB a = true) ∨ (a ≠ V.zero ∧ rightB a = false))) := by
  obtain ⟨k, n, s⟩ := a
  by_cases h1 : k = 1 ∧ s.toList = [] ∧ (n = 0 ∨ n = 1)
  · obtain ⟨rfl, hs, hn⟩ := h1
    rw [emp hs]
    rcases hn with rfl | rfl
    · exact .inl (.inl rfl)
    · exact .inl (.inr (.inl rfl))
  · by_cases h2 : k = 2 ∧ s.toList = []
    · obtain ⟨rfl, hs⟩ := h2
      rw [emp hs]
      exact .inl (.inr (.inr (.inl ⟨n, rfl⟩)))
    · by_cases h3 : k = 3 ∧ n = 0 ∧ s.size ≤ 1024
      · obtain ⟨rfl, rfl, hs⟩ := h3
        exact .inl (.inr (.inr (.inr ⟨s, hs, rfl⟩)))
      · refine .inr ⟨by simp only [boxV]; rw [if_neg h1, if_neg h2, if_neg h3], ?_⟩
        by_cases h0 : k = 0 ∧ n = 0 ∧ s.toList = []
        · obtain ⟨rfl, rfl, hs⟩ := h0
          rw [emp hs]
          exact .inl ⟨rfl, by decide +kernel⟩
        · refine .inr ⟨fun e => h0 ?_, decide_eq_false (fun e => ?_)⟩
          · simp only [V.zero, V.mk.injEq] at e
            obtain ⟨rfl, rfl, rfl⟩ := e
            exact ⟨rfl, rfl, emp_toList⟩
          · rcases e with e | ⟨e1, e2, e3⟩ | e | e
            · exact h0 e
            · exact h1 ⟨e1, e3, e2⟩
            · exact h2 e
            · exact h3 e
/-- A value in a block of its own. -/
def VAt (w : World) (g : Nat) (a : V) : Prop := w.heap[g]? = some (.cells #[.int .u8 a.k, .int .i64 a.n, .string a.s] 38 (0, 0))
theorem VAt.open_ {w : World} {g : Nat} {a : V} (h : VAt w g a) : w.cell? ⟨g, 0, none⟩ = some (.int .u8 a.k) ∧ w.cell? ⟨g, 1, none⟩ = some (.int .i64 a.n) ∧ w.cell? ⟨g, 2, none⟩ = some (.string a.s) ∧ g < w.heap.size := by
  unfold VAt at h
  have hlt : g < w.heap.size := (Array.getElem?_eq_some_iff.1 h).1
  refine ⟨?_, ?_, ?_, hlt⟩ <;> simp [World.cell?, h]
theorem VAt.new (w : World) (a : V) : VAt (w.alloc (.cells #[.int .u8 a.k, .int .i64 a.n, .string a.s] 38)) w.heap.size a := _root_.Go.heap_alloc_new w _
theorem VAt.mono {w w' : World} {g : Nat} {a : V} (h : VAt w g a) (hb : Below w.heap.size w w') : VAt w' g a := (hb.block g h.open_.2.2.2).trans h
set_option maxHeartbeats 1000000 in
theorem right_any (a : V) (w : World) : Calls Try.prog 38 #[a.val] w (fun e w' => e = .returned (.bool (rightB a)) ∧ Below w.heap.size w w') := by
  rcases box_cases a with (rfl | rfl | ⟨n, rfl⟩ | ⟨s, hs, rfl⟩) | ⟨hb, hz⟩
  · have hb := box_any ⟨1, 0, ByteArray.empty⟩
    rw [show boxV ⟨1, 0, ByteArray.empty⟩ = .iface 4 (.bool false) from by simp [boxV, emp_toList]] at hb
    rw [show rightB ⟨1, 0, ByteArray.empty⟩ = true from by simp [rightB, rightP, emp_toList]]
    simp only [V.val] at hb ⊢
    go_enter Try.func38, Try.ntmps38
    go_wp2_with (first | (at_make; refine Stop.un ?_) | (at_builtin; refine Stop.un ?_) | (with_reducible refine Stop.conv 22 9 ?_) | (with_reducible refine Stop.conv 9 22 ?_))
    refine (hb _).mono ?_
    rintro e w1 ⟨rfl, b1⟩
    clear hb
    go_wp2_with (first | (at_make; refine Stop.un ?_) | (at_builtin; refine Stop.un ?_) | (with_reducible refine Stop.conv 22 9 ?_) | (with_reducible refine Stop.conv 9 22 ?_))
    refine (unbox_bool false _).mono ?_
    rintro e w2 ⟨rfl, b2⟩
    simp only [V.val, Bool.false_eq_true, if_true, if_false]
    have b3 : Below w.heap.size w w2 := ((Below.refl _ _).alloc (Nat.le_refl _) _).next (b1.next b2)
    obtain ⟨c0, c1, c2, hz⟩ := ((VAt.new w ⟨1, 0, ByteArray.empty⟩).mono (b1.next b2)).open_
    clear b1 b2
    go_wp2_with (first | (at_make; refine Stop.un ?_) | (at_builtin; refine Stop.un ?_) | (with_reducible refine Stop.conv 22 9 ?_) | (with_reducible refine Stop.conv 9 22 ?_))
    go_ret
    exact ⟨rfl, b3.next ((Below.refl _ _).alloc (Nat.le_refl _) _)⟩
  · have hb := box_any ⟨1, 1, ByteArray.empty⟩
    rw [show boxV ⟨1, 1, ByteArray.empty⟩ = .iface 4 (.bool true) from by simp [boxV, emp_toList]] at hb
    rw [show rightB ⟨1, 1, ByteArray.empty⟩ = true from by simp [rightB, rightP, emp_toList]]
    simp only [V.val] at hb ⊢
    go_enter Try.func38, Try.ntmps38
    go_wp2_with (first | (at_make; refine Stop.un ?_) | (at_builtin; refine Stop.un ?_) | (with_reducible refine Stop.conv 22 9 ?_) | (with_reducible refine Stop.conv 9 22 ?_))
    refine (hb _).mono ?_
    rintro e w1 ⟨rfl, b1⟩
    clear hb
    go_wp2_with (first | (at_make; refine Stop.un ?_) | (at_builtin; refine Stop.un ?_) | (with_reducible refine Stop.conv 22 9 ?_) | (with_reducible refine Stop.conv 9 22 ?_))
    refine (unbox_bool true _).mono ?_
    rintro e w2 ⟨rfl, b2⟩
    simp only [V.val, Bool.false_eq_true, if_true, if_false]
    have b3 : Below w.heap.size w w2 := ((Below.refl _ _).alloc (Nat.le_refl _) _).next (b1.next b2)
    obtain ⟨c0, c1, c2, hz⟩ := ((VAt.new w ⟨1, 1, ByteArray.empty⟩).mono (b1.next b2)).open_
    clear b1 b2
    go_wp2_with (first | (at_make; refine Stop.un ?_) | (at_builtin; refine Stop.un ?_) | (with_reducible refine Stop.conv 22 9 ?_) | (with_reducible refine Stop.conv 9 22 ?_))
    go_ret
    exact ⟨rfl, b3.next ((Below.refl _ _).alloc (Nat.le_refl _) _)⟩
  · have hb := box_any ⟨2, n, ByteArray.empty⟩
    rw [show boxV ⟨2, n, ByteArray.empty⟩ = .iface 3 (.int .i64 n) from by simp [boxV, emp_toList]] at hb
    rw [show rightB ⟨2, n, ByteArray.empty⟩ = true from by simp [rightB, rightP, emp_toList]]
    simp only [V.val] at hb ⊢
    go_enter Try.func38, Try.ntmps38
    go_wp2_with (first | (at_make; refine Stop.un ?_) | (at_builtin; refine Stop.un ?_) | (with_reducible refine Stop.conv 22 9 ?_) | (with_reducible refine Stop.conv 9 22 ?_))
    refine (hb _).mono ?_
    rintro e w1 ⟨rfl, b1⟩
    clear hb
    go_wp2_with (first | (at_make; refine Stop.un ?_) | (at_builtin; refine Stop.un ?_) | (with_reducible refine Stop.conv 22 9 ?_) | (with_reducible refine Stop.conv 9 22 ?_))
    refine (unbox_int n _).mono ?_
    rintro e w2 ⟨rfl, b2⟩
    simp only [V.val, Bool.false_eq_true, if_true, if_false]
    have b3 : Below w.heap.size w w2 := ((Below.refl _ _).alloc (Nat.le_refl _) _).next (b1.next b2)
    obtain ⟨c0, c1, c2, hz⟩ := ((VAt.new w ⟨2, n, ByteArray.empty⟩).mono (b1.next b2)).open_
    clear b1 b2
    go_wp2_with (first | (at_make; refine Stop.un ?_) | (at_builtin; refine Stop.un ?_) | (with_reducible refine Stop.conv 22 9 ?_) | (with_reducible refine Stop.conv 9 22 ?_))
    go_ret
    exact ⟨rfl, b3.next ((Below.refl _ _).alloc (Nat.le_refl _) _)⟩
  · have hb := box_any ⟨3, 0, s⟩
    have HS := Lib.hid hs
    rw [show boxV ⟨3, 0, s⟩ = .iface 9 (.string s) from by simp [boxV, hs]] at hb
    rw [show rightB ⟨3, 0, s⟩ = true from by simp [rightB, rightP, hs]]
    simp only [V.val] at hb ⊢
    go_enter Try.func38, Try.ntmps38
    go_wp2_with (first | (at_make; refine Stop.un ?_) | (at_builtin; refine Stop.un ?_) | (with_reducible refine Stop.conv 22 9 ?_) | (with_reducible refine Stop.conv 9 22 ?_))
    refine (hb _).mono ?_
    rintro e w1 ⟨rfl, b1⟩
    clear hb
    go_wp2_with (first | (at_make; refine Stop.un ?_) | (at_builtin; refine Stop.un ?_) | (with_reducible refine Stop.conv 22 9 ?_) | (with_reducible refine Stop.conv 9 22 ?_))
    refine (unbox_str s _ hs).mono ?_
    rintro e w2 ⟨rfl, b2⟩
    simp only [V.val, Bool.false_eq_true, if_true, if_false]
    have b3 : Below w.heap.size w w2 := ((Below.refl _ _).alloc (Nat.le_refl _) _).next (b1.next b2)
    obtain ⟨c0, c1, c2, hz⟩ := ((VAt.new w ⟨3, 0, s⟩).mono (b1.next b2)).open_
    clear b1 b2
    go_wp2_with (first | (at_make; refine Stop.un ?_) | (at_builtin; refine Stop.un ?_) | (with_reducible refine Stop.conv 22 9 ?_) | (with_reducible refine Stop.conv 9 22 ?_))
    go_ret
    exact ⟨rfl, b3.next ((Below.refl _ _).alloc (Nat.le_refl _) _)⟩
  · obtain ⟨k, n, s⟩ := a
    have hcase : (k = 0 ∧ n = 0 ∧ s.toList = []) ∨ (¬ k = 0) ∨ (k = 0 ∧ ¬ n = 0) ∨ (k = 0 ∧ n = 0 ∧ ¬ s.toList = []) := by
      by_cases e1 : k = 0 <;> by_cases e2 : n = 0 <;> by_cases e3 : s.toList = [] <;> simp [e1, e2, e3]
    have hyes : k = 0 ∧ n = 0 ∧ s.toList = [] → rightB ⟨k, n, s⟩ = true := by
      rintro ⟨rfl, rfl, h⟩
      exact decide_eq_true (.inl ⟨rfl, rfl, h⟩)
    have hno : ¬ (k = 0 ∧ n = 0 ∧ s.toList = []) → rightB ⟨k, n, s⟩ = false := by
      intro h
      rcases hz with ⟨e, _⟩ | ⟨_, h2⟩
      · simp only [V.zero, V.mk.injEq] at e
        obtain ⟨rfl, rfl, rfl⟩ := e
        exact absurd ⟨rfl, rfl, emp_toList⟩ h
      · exact h2
    clear hz
    have hbx := box_any ⟨k, n, s⟩
    rw [hb] at hbx
    clear hb
    have HY := Lib.hid hyes
    have HN := Lib.hid hno
    clear hyes hno
    rcases hcase with ⟨rfl, rfl, hs⟩ | hk | ⟨rfl, hn⟩ | ⟨rfl, rfl, hs⟩
    · rw [HY.out ⟨rfl, rfl, hs⟩]
      obtain rfl := emp hs
      simp only [V.val] at hbx ⊢
      go_enter Try.func38, Try.ntmps38
      go_wp2_with (first | (at_make; refine Stop.un ?_) | (at_builtin; refine Stop.un ?_) | (with_reducible refine Stop.conv 22 9 ?_) | (with_reducible refine Stop.conv 9 22 ?_))
      refine (hbx _).mono ?_
      rintro e w1 ⟨rfl, b1⟩
      clear hbx
      go_wp2_with (first | (at_make; refine Stop.un ?_) | (at_builtin; refine Stop.un ?_) | (with_reducible refine Stop.conv 22 9 ?_) | (with_reducible refine Stop.conv 9 22 ?_))
      refine (unbox_nil _).mono ?_
      rintro e w2 ⟨rfl, b2⟩
      simp only [V.val, V.zero]
      have b3 : Below w.heap.size w w2 := ((Below.refl _ _).alloc (Nat.le_refl _) _).next (b1.next b2)
      obtain ⟨c0, c1, c2, hz⟩ := ((VAt.new w ⟨0, 0, ByteArray.empty⟩).mono (b1.next b2)).open_
      clear b1 b2
      go_wp2_with (first | (at_make; refine Stop.un ?_) | (at_builtin; refine Stop.un ?_) | (with_reducible refine Stop.conv 22 9 ?_) | (with_reducible refine Stop.conv 9 22 ?_))
      go_ret
      exact ⟨rfl, b3.next ((Below.refl _ _).alloc (Nat.le_refl _) _)⟩
    · rw [HN.out (fun h => hk h.1)]
      have hk1 : ((0 : Int) == k) = false := by simp; omega
      have hk2 : ¬ (0 : Int) = k := by omega
      have HK := Lib.hid hk
      clear hk
      simp only [V.val] at hbx ⊢
      go_enter Try.func38, Try.ntmps38
      go_wp2_with (first | (at_make; refine Stop.un ?_) | (at_builtin; refine Stop.un ?_) | (with_reducible refine Stop.conv 22 9 ?_) | (with_reducible refine Stop.conv 9 22 ?_))
      refine (hbx _).mono ?_
      rintro e w1 ⟨rfl, b1⟩
      clear hbx
      go_wp2_with (first | (at_make; refine Stop.un ?_) | (at_builtin; refine Stop.un ?_) | (with_reducible refine Stop.conv 22 9 ?_) | (with_reducible refine Stop.conv 9 22 ?_))
      refine (unbox_nil _).mono ?_
      rintro e w2 ⟨rfl, b2⟩
      simp only [V.val, V.zero]
      have b3 : Below w.heap.size w w2 := ((Below.refl _ _).alloc (Nat.le_refl _) _).next (b1.next b2)
      obtain ⟨c0, c1, c2, hz⟩ := ((VAt.new w ⟨k, n, s⟩).mono (b1.next b2)).open_
      clear b1 b2
      go_wp2_with (first | (at_make; refine Stop.un ?_) | (at_builtin; refine Stop.un ?_) | (with_reducible refine Stop.conv 22 9 ?_) | (with_reducible refine Stop.conv 9 22 ?_))
      go_ret
      exact ⟨rfl, b3.next ((Below.refl _ _).alloc (Nat.le_refl _) _)⟩
    · rw [HN.out (fun h => hn h.2.1)]
      have hk1 : ((0 : Int) == n) = false := by simp; omega
      have hk2 : ¬ (0 : Int) = n := by omega
      have HK := Lib.hid hn
      clear hn
      simp only [V.val] at hbx ⊢
      go_enter Try.func38, Try.ntmps38
      go_wp2_with (first | (at_make; refine Stop.un ?_) | (at_builtin; refine Stop.un ?_) | (with_reducible refine Stop.conv 22 9 ?_) | (with_reducible refine Stop.conv 9 22 ?_))
      refine (hbx _).mono ?_
      rintro e w1 ⟨rfl, b1⟩
      clear hbx
      go_wp2_with (first | (at_make; refine Stop.un ?_) | (at_builtin; refine Stop.un ?_) | (with_reducible refine Stop.conv 22 9 ?_) | (with_reducible refine Stop.conv 9 22 ?_))
      refine (unbox_nil _).mono ?_
      rintro e w2 ⟨rfl, b2⟩
      simp only [V.val, V.zero]
      have b3 : Below w.heap.size w w2 := ((Below.refl _ _).alloc (Nat.le_refl _) _).next (b1.next b2)
      obtain ⟨c0, c1, c2, hz⟩ := ((VAt.new w ⟨0, n, s⟩).mono (b1.next b2)).open_
      clear b1 b2
      go_wp2_with (first | (at_make; refine Stop.un ?_) | (at_builtin; refine Stop.un ?_) | (with_reducible refine Stop.conv 22 9 ?_) | (with_reducible refine Stop.conv 9 22 ?_))
      go_ret
      exact ⟨rfl, b3.next ((Below.refl _ _).alloc (Nat.le_refl _) _)⟩
    · rw [HN.out (fun h => hs h.2.2)]
      have hk1 : (!s.toList.isEmpty) = true := by simpa using hs
      have hk2 : s.toList.isEmpty = false := by simpa using hs
      have hk3 : ([] == s.toList) = false := by cases h : s.toList with | nil => exact absurd h hs | cons a b => rfl
      simp only [V.val] at hbx ⊢
      go_enter Try.func38, Try.ntmps38
      go_wp2_with (first | (at_make; refine Stop.un ?_) | (at_builtin; refine Stop.un ?_) | (with_reducible refine Stop.conv 22 9 ?_) | (with_reducible refine Stop.conv 9 22 ?_))
      refine (hbx _).mono ?_
      rintro e w1 ⟨rfl, b1⟩
      clear hbx
      go_wp2_with (first | (at_make; refine Stop.un ?_) | (at_builtin; refine Stop.un ?_) | (with_reducible refine Stop.conv 22 9 ?_) | (with_reducible refine Stop.conv 9 22 ?_))
      refine (unbox_nil _).mono ?_
      rintro e w2 ⟨rfl, b2⟩
      simp only [V.val, V.zero]
      have b3 : Below w.heap.size w w2 := ((Below.refl _ _).alloc (Nat.le_refl _) _).next (b1.next b2)
      obtain ⟨c0, c1, c2, hz⟩ := ((VAt.new w ⟨0, 0, s⟩).mono (b1.next b2)).open_
      clear b1 b2
      go_wp2_with (first | (at_make; refine Stop.un ?_) | (at_builtin; refine Stop.un ?_) | (with_reducible refine Stop.conv 22 9 ?_) | (with_reducible refine Stop.conv 9 22 ?_))
      go_ret
      exact ⟨rfl, b3.next ((Below.refl _ _).alloc (Nat.le_refl _) _)⟩
end Go.Proofs.Ytbiniecjenencaa
