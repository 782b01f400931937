/- The head of all statements of layer 8; the first numbers. -/
import Derived.Test.YtcjnehlbkjpgbaaFrame
set_option linter.unusedVariables false
set_option linter.unusedSimpArgs false
namespace Go.Proofs.Ytcjnehlbkjpgbaa
open Go.RowKit
theorem sh1 : packR [1, 2, 3] 2 = [57] := by decide +kernel
theorem sh1e : packE [1, 2, 3] 2 = 0 := by decide +kernel
theorem sh2 : frameR [7, 7] = [2, 14, 0] := by decide +kernel
theorem sh2e : frameE [7, 7] = 0 := by decide +kernel
theorem sh3 : frameR [3, 5] = [2, 6, 2, 8] := by decide +kernel
theorem sh3e : frameE [3, 5] = 0 := by decide +kernel
theorem sh4 : widN [5] = 3 := by decide +kernel
theorem cs_lit {w : World} (cs : Array Value) (e : TypeId) : Cs (w.alloc (.cells cs e)) (some ⟨w.heap.size, 0, none⟩) cs.toList := At.cs (xs := cs.toList) (At.new w cs e)
set_option maxRecDepth 100000 in
set_option maxHeartbeats 4000000 in
theorem shown_any (w : World) : Calls Try.prog 14 #[] w (fun e w' => e = .returned (.bool true) ∧ Below w.heap.size w w') := by
  go_enter Try.func14, Try.ntmps14
  go_wp2_with (first | (at_make; refine Stop.un ?_) | (at_builtin; refine Stop.un ?_) | (with_reducible refine Stop.conv 24 9 ?_) | (with_reducible refine Stop.conv 9 24 ?_))
  have b0 := (Below.refl w.heap.size w).alloc (Nat.le_refl _) (.cells #[.int .u64 1, .int .u64 2, .int .u64 3] 47)
  refine (pack_any _ 3 3 2 [1, 2, 3] _ (cs_lit #[.int .u64 1, .int .u64 2, .int .u64 3] 47) rfl (by decide) (by decide)).mono ?_
  rw [sh1, sh1e]
  rintro e w1 ⟨a1, n1, c1, h1, rfl, o1⟩
  have H1 := Lib.hid h1
  have cs1 := Own.cs o1
  have b1 := b0.next (Own.below o1)
  clear b0 o1 h1
  go_wp2_with (first | (at_make; refine Stop.un ?_) | (at_builtin; refine Stop.un ?_) | (with_reducible refine Stop.conv 24 9 ?_) | (with_reducible refine Stop.conv 9 24 ?_))
  have z := (Below.refl w1.heap.size w1).alloc (Nat.le_refl _) (.cells #[.int .i64 7, .int .i64 7] 3)
  replace cs1 := cs1.mono z (Nat.le_refl _)
  replace b1 := b1.next z
  clear z
  refine (frame_any _ 2 2 [7, 7] _ (cs_lit #[.int .i64 7, .int .i64 7] 3) rfl (by decide) (by decide) (by unfold inI; decide)).mono ?_
  rw [sh2, sh2e]
  rintro e w2 ⟨a2, n2, c2, h2, rfl, o2⟩
  have H2 := Lib.hid h2
  have cs2 := Own.cs o2
  replace cs1 := cs1.mono (Own.below o2) (Nat.le_refl _)
  replace b1 := b1.next (Own.below o2)
  clear o2 h2
  go_wp2_with (first | (at_make; refine Stop.un ?_) | (at_builtin; refine Stop.un ?_) | (with_reducible refine Stop.conv 24 9 ?_) | (with_reducible refine Stop.conv 9 24 ?_))
  have z := (Below.refl w2.heap.size w2).alloc (Nat.le_refl _) (.cells #[.int .i64 3, .int .i64 5] 3)
  replace cs1 := cs1.mono z (Nat.le_refl _)
  replace cs2 := cs2.mono z (Nat.le_refl _)
  replace b1 := b1.next z
  clear z
  refine (frame_any _ 2 2 [3, 5] _ (cs_lit #[.int .i64 3, .int .i64 5] 3) rfl (by decide) (by decide) (by unfold inI; decide)).mono ?_
  rw [sh3, sh3e]
  rintro e w3 ⟨a3, n3, c3, h3, rfl, o3⟩
  have H3 := Lib.hid h3
  have cs3 := Own.cs o3
  replace cs1 := cs1.mono (Own.below o3) (Nat.le_refl _)
  replace cs2 := cs2.mono (Own.below o3) (Nat.le_refl _)
  replace b1 := b1.next (Own.below o3)
  clear o3 h3
  go_wp2_with (first | (at_make; refine Stop.un ?_) | (at_builtin; refine Stop.un ?_) | (with_reducible refine Stop.conv 24 9 ?_) | (with_reducible refine Stop.conv 9 24 ?_))
  have z := (Below.refl w3.heap.size w3).alloc (Nat.le_refl _) (.cells #[.int .u64 5] 47)
  replace cs1 := cs1.mono z (Nat.le_refl _)
  replace cs2 := cs2.mono z (Nat.le_refl _)
  replace cs3 := cs3.mono z (Nat.le_refl _)
  replace b1 := b1.next z
  clear z
  refine (width_any _ 1 1 [5] _ (cs_lit #[.int .u64 5] 47) rfl (by decide) (by decide) (by decide)).mono ?_
  rw [sh4]
  rintro e w4 ⟨rfl, rfl⟩
  have hA : ((strOf [57]).toList == [57]) = true := by rw [strOf_toList']; rfl
  have hB : ((strOf [2, 14, 0]).toList == [2, 14, 0]) = true := by rw [strOf_toList']; rfl
  have hC : ((strOf [2, 6, 2, 8]).toList == [2, 6, 2, 8]) = true := by rw [strOf_toList']; rfl
  generalize w3.alloc (.cells #[.int .u64 5] 47) = w5 at cs1 cs2 cs3 b1 ⊢
  go_wp2_with (first | (at_make; refine Stop.un ?_) | (at_builtin; refine Stop.un ?_) | (with_reducible refine Stop.conv 24 9 ?_) | (with_reducible refine Stop.conv 9 24 ?_))
  refine Stop.mk (wpList_conv Try.underlying24 Try.underlying5 Try.underlying9 _ rfl rfl rfl H1.out cs1 ?_)
  clear cs1
  go_wp2_with (first | (at_make; refine Stop.un ?_) | (at_builtin; refine Stop.un ?_) | (with_reducible refine Stop.conv 24 9 ?_) | (with_reducible refine Stop.conv 9 24 ?_))
  refine Stop.mk (wpList_conv Try.underlying24 Try.underlying5 Try.underlying9 _ rfl rfl rfl H2.out cs2 ?_)
  clear cs2
  go_wp2_with (first | (at_make; refine Stop.un ?_) | (at_builtin; refine Stop.un ?_) | (with_reducible refine Stop.conv 24 9 ?_) | (with_reducible refine Stop.conv 9 24 ?_))
  refine Stop.mk (wpList_conv Try.underlying24 Try.underlying5 Try.underlying9 _ rfl rfl rfl H3.out cs3 ?_)
  clear cs3
  go_wp2_with (first | (at_make; refine Stop.un ?_) | (at_builtin; refine Stop.un ?_) | (with_reducible refine Stop.conv 24 9 ?_) | (with_reducible refine Stop.conv 9 24 ?_))
  go_ret
  exact ⟨rfl, b1⟩
theorem ucut {w : World} {ao : Option Addr} {l : List Nat} (h : Cs w ao (ucells l)) (k : Nat) : Cs w ao (ucells (l.take k)) := by
  have := h.take k
  rwa [show (ucells l).take k = ucells (l.take k) by simp [ucells, List.map_take]] at this
theorem bcut {w : World} {ao : Option Addr} {l : List UInt8} (h : Cs w ao (bcells l)) (k : Nat) : Cs w ao (bcells (l.take k)) := by
  have := h.take k
  rwa [show (bcells l).take k = bcells (l.take k) by simp [bcells, List.map_take]] at this
theorem icut {w : World} {ao : Option Addr} {l : List Int} (h : Cs w ao (icells l)) (k : Nat) : Cs w ao (icells (l.take k)) := by
  have := h.take k
  rwa [show (icells l).take k = icells (l.take k) by simp [icells, List.map_take]] at this
set_option maxHeartbeats 1000000 in
theorem few_any (ao : Option Addr) (m cap : Nat) (w : World) (hl : m ≤ cap) (hcm : cap ≤ maxLen) :
    Calls Try.prog 9 #[.slice ao m cap] w (fun e w' => e = .returned (.slice ao (min m 5000) cap) ∧ w = w') := by
  unfold maxLen at hcm
  have hk : min (m : Int) 5000 = ((min m 5000 : Nat) : Int) := by omega
  have hk2 : min m 5000 ≤ cap := by omega
  generalize min m 5000 = f at hk hk2 ⊢
  have HK := Lib.hid hk
  clear hk
  go_enter Try.func9, Try.ntmps9
  go_wp2_with (first | (at_make; refine Stop.un ?_) | (at_builtin; refine Stop.un ?_) | (with_reducible refine Stop.conv 24 9 ?_) | (with_reducible refine Stop.conv 9 24 ?_) | (with_reducible refine Stop.slice ?_))
  rw [HK.out]
  refine Stop.mk ?_
  go_wp2_with (first | (at_make; refine Stop.un ?_) | (at_builtin; refine Stop.un ?_) | (with_reducible refine Stop.conv 24 9 ?_) | (with_reducible refine Stop.conv 9 24 ?_))
  go_ret
  exact ⟨rfl, rfl⟩
end Go.Proofs.Ytcjnehlbkjpgbaa
