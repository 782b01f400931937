/- What is known, as bytes: what the program returns. -/
import Derived.Test.YtdpmaocbfmgmlaaZBackP
import Derived.Test.YtdpmaocbfmgmlaaZOne
import Derived.Test.YtdpmaocbfmgmlaaCTake
set_option linter.unusedVariables false
set_option linter.unusedSimpArgs false
namespace Go.Proofs.Ytdpmaocbfmgmlaa
open Go.RowKit
theorem numB_le (n : Nat) : (numB n).length ≤ 9 := (numB_length n).2
theorem tailV_le (a : V) (h : a.k = 3 → a.s.size ≤ 1024) : (tailV a).length ≤ 1033 := by
  unfold tailV
  split
  · have := (numB_length (Lib.zigzag a.n)).2; unfold intB; omega
  · split
    · rename_i h3
      have h1 := h h3
      have := (numB_length a.s.data.toList.length).2
      unfold textB
      rw [List.length_append, data_length] at *
      omega
    · simp
theorem putV_le (a : V) : (putV a).length ≤ 1034 := by
  unfold putV
  have : (tailV (canon a)).length ≤ 1033 := by
    refine tailV_le _ (fun h => ?_)
    rcases canon_cases a with e | e | e | e | ⟨hs, e⟩ <;> rw [e] at h ⊢
    · simp [V.zero] at h
    · simp at h
    · simp at h
    · simp at h
    · exact hs
  simp; omega
theorem putZ_le (z : Zn) : (putZ z).length ≤ 3000 := by
  unfold putZ intB
  have h1 := putV_le z.lo
  have h2 := putV_le z.hi
  have h3 := numB_le (Lib.zigzag z.nulls)
  have h4 := numB_le (Lib.zigzag z.many)
  simp only [List.length_append]
  omega
set_option maxRecDepth 100000 in
set_option maxHeartbeats 8000000 in
theorem zput_any (z : Zn) (w : World) (h1 : InR z.lo.n) (h2 : InR z.hi.n) (h3 : InR z.nulls) (h4 : InR z.many) : Calls Try.prog 28 #[z.val] w (RetB w (putZ z)) := by
  have HP1 := Lib.hid (fun w => put_any none 0 0 [] z.lo w (Cs.nil _ _) rfl (by omega) h1)
  have HP2 := Lib.hid (fun (ao : Option Addr) (m cap : Nat) w hc hm hl => put_any ao m cap (putV z.lo) z.hi w hc hm hl h2)
  have HI1 := Lib.hid (fun (ao : Option Addr) (m cap : Nat) w hc hm hl => int_any ao m cap (putV z.lo ++ putV z.hi) z.nulls w hc hm hl h3.1 h3.2)
  have HI2 := Lib.hid (fun (ao : Option Addr) (m cap : Nat) w hc hm hl => int_any ao m cap (putV z.lo ++ putV z.hi ++ intB z.nulls) z.many w hc hm hl h4.1 h4.2)
  have HL1 := Lib.hid (putV_le z.lo)
  have HL2 := Lib.hid (putV_le z.hi)
  have HL3 := Lib.hid (show (intB z.nulls).length ≤ 9 from numB_le _)
  rw [show putZ z = putV z.lo ++ putV z.hi ++ intB z.nulls ++ intB z.many from rfl]
  simp only [List.nil_append] at HP1
  generalize putV z.lo = pl at HP1 HP2 HI1 HI2 HL1 ⊢
  generalize putV z.hi = ph at HP2 HI1 HI2 HL2 ⊢
  generalize intB z.nulls = pn at HI1 HI2 HL3 ⊢
  generalize intB z.many = pm at HI2 ⊢
  obtain ⟨⟨k, n, s⟩, ⟨k', n', s'⟩, nu, ma⟩ := z
  simp only [V.val] at HP1 HP2 HI1 HI2
  simp only [Zn.val]
  clear h1 h2 h3 h4
  go_enter Try.func28, Try.ntmps28
  go_wp2_with (first | (at_make; refine Stop.un ?_) | (at_builtin; refine Stop.un ?_) | (with_reducible refine Stop.conv 40 9 ?_) | (with_reducible refine Stop.conv 9 40 ?_))
  have z1 : At (w.alloc (.cells #[.int .u8 k, .int .i64 n, .string s, .int .u8 k', .int .i64 n', .string s', .int .i64 nu, .int .i64 ma] 26)) (w.heap.size) #[.int .u8 k, .int .i64 n, .string s, .int .u8 k', .int .i64 n', .string s', .int .i64 nu, .int .i64 ma] 26 := by simpa only [World.size_alloc, Nat.add_assoc, Nat.reduceAdd] using At.new w #[.int .u8 k, .int .i64 n, .string s, .int .u8 k', .int .i64 n', .string s', .int .i64 nu, .int .i64 ma] 26
  have BB : Below w.heap.size w (w.alloc (.cells #[.int .u8 k, .int .i64 n, .string s, .int .u8 k', .int .i64 n', .string s', .int .i64 nu, .int .i64 ma] 26)) := Below.alloc (Below.refl w.heap.size w) (by (try simp only [World.size_alloc]) <;> omega) (.cells #[.int .u8 k, .int .i64 n, .string s, .int .u8 k', .int .i64 n', .string s', .int .i64 nu, .int .i64 ma] 26)
  refine mix_startE 13 rfl (by kernel_rfl) ?_
  intro xq hxq
  replace z1 := At.mono z1 hxq
  replace BB := Below.next BB hxq
  clear hxq
  refine mix_quiet Keeps.ext 0 rfl (by kernel_rfl) rfl ?_
  intro ι U hne hU
  go_big_quiet_op
  clear hU hne U ι
  show wpAnyM _ _ _ _ _ _ _ _ _
  refine mix_quiet Keeps.ext 1 rfl (by kernel_rfl) rfl ?_
  intro ι U hne hU
  have hcw0 := fun ii => (At.mono z1 (hU ii)).cell 0 rfl
  have hcw1 := fun ii => (At.mono z1 (hU ii)).cell 1 rfl
  have hcw2 := fun ii => (At.mono z1 (hU ii)).cell 2 rfl
  have hcw3 := fun ii => (At.mono z1 (hU ii)).cell 3 rfl
  have hcw4 := fun ii => (At.mono z1 (hU ii)).cell 4 rfl
  have hcw5 := fun ii => (At.mono z1 (hU ii)).cell 5 rfl
  have hcw6 := fun ii => (At.mono z1 (hU ii)).cell 6 rfl
  have hcw7 := fun ii => (At.mono z1 (hU ii)).cell 7 rfl
  go_big_quiet_op
  clear hU hne hcw0 hcw1 hcw2 hcw3 hcw4 hcw5 hcw6 hcw7 U ι
  show wpAnyM _ _ _ _ _ _ _ _ _
  refine mix_quiet Keeps.ext 3 rfl (by kernel_rfl) rfl ?_
  intro ι U hne hU
  go_big_quiet_op
  clear hU hne U ι
  show wpAnyM _ _ _ _ _ _ _ _ _
  refine mix_quiet Keeps.ext 4 rfl (by kernel_rfl) rfl ?_
  intro ι U hne hU
  have hcw0 := fun ii => (At.mono z1 (hU ii)).cell 0 rfl
  have hcw1 := fun ii => (At.mono z1 (hU ii)).cell 1 rfl
  have hcw2 := fun ii => (At.mono z1 (hU ii)).cell 2 rfl
  have hcw3 := fun ii => (At.mono z1 (hU ii)).cell 3 rfl
  have hcw4 := fun ii => (At.mono z1 (hU ii)).cell 4 rfl
  have hcw5 := fun ii => (At.mono z1 (hU ii)).cell 5 rfl
  have hcw6 := fun ii => (At.mono z1 (hU ii)).cell 6 rfl
  have hcw7 := fun ii => (At.mono z1 (hU ii)).cell 7 rfl
  go_big_quiet_op
  clear hU hne hcw0 hcw1 hcw2 hcw3 hcw4 hcw5 hcw6 hcw7 U ι
  show wpAnyM _ _ _ _ _ _ _ _ _
  refine mix_quiet Keeps.ext 6 rfl (by kernel_rfl) rfl ?_
  intro ι U hne hU
  go_big_quiet_op
  clear hU hne U ι
  show wpAnyM _ _ _ _ _ _ _ _ _
  refine mix_quiet Keeps.ext 7 rfl (by kernel_rfl) rfl ?_
  intro ι U hne hU
  have hcw0 := fun ii => (At.mono z1 (hU ii)).cell 0 rfl
  have hcw1 := fun ii => (At.mono z1 (hU ii)).cell 1 rfl
  have hcw2 := fun ii => (At.mono z1 (hU ii)).cell 2 rfl
  have hcw3 := fun ii => (At.mono z1 (hU ii)).cell 3 rfl
  have hcw4 := fun ii => (At.mono z1 (hU ii)).cell 4 rfl
  have hcw5 := fun ii => (At.mono z1 (hU ii)).cell 5 rfl
  have hcw6 := fun ii => (At.mono z1 (hU ii)).cell 6 rfl
  have hcw7 := fun ii => (At.mono z1 (hU ii)).cell 7 rfl
  go_big_quiet_op
  clear hU hne hcw0 hcw1 hcw2 hcw3 hcw4 hcw5 hcw6 hcw7 U ι
  show wpAnyM _ _ _ _ _ _ _ _ _
  refine mix_quiet Keeps.ext 9 rfl (by kernel_rfl) rfl ?_
  intro ι U hne hU
  go_big_quiet_op
  clear hU hne U ι
  show wpAnyM _ _ _ _ _ _ _ _ _
  refine mix_quiet Keeps.ext 10 rfl (by kernel_rfl) rfl ?_
  intro ι U hne hU
  have hcw0 := fun ii => (At.mono z1 (hU ii)).cell 0 rfl
  have hcw1 := fun ii => (At.mono z1 (hU ii)).cell 1 rfl
  have hcw2 := fun ii => (At.mono z1 (hU ii)).cell 2 rfl
  have hcw3 := fun ii => (At.mono z1 (hU ii)).cell 3 rfl
  have hcw4 := fun ii => (At.mono z1 (hU ii)).cell 4 rfl
  have hcw5 := fun ii => (At.mono z1 (hU ii)).cell 5 rfl
  have hcw6 := fun ii => (At.mono z1 (hU ii)).cell 6 rfl
  have hcw7 := fun ii => (At.mono z1 (hU ii)).cell 7 rfl
  go_big_quiet_op
  clear hU hne hcw0 hcw1 hcw2 hcw3 hcw4 hcw5 hcw6 hcw7 U ι
  show wpAnyM _ _ _ _ _ _ _ _ _
  refine mix_any 2 rfl (by kernel_rfl) rfl ?_
  go_wp2_with (first | (at_make; refine Stop.un ?_) | (at_builtin; refine Stop.un ?_) | (with_reducible refine Stop.conv 40 9 ?_) | (with_reducible refine Stop.conv 9 40 ?_))
  refine (HP1.out _).mono ?_
  rintro e w2 ⟨a2, n2, c2, h2, rfl, o2⟩
  have hb2 := Own.below o2
  have HN2 := Lib.hid h2
  have cs2 := Own.cs o2
  have hl2 : n2 ≤ 3000 := by have h1 := HL1.out; have h2 := HL2.out; have h3 := HL3.out; (try simp only [List.length_append] at h2); omega
  clear h2 o2
  go_wp2_with (first | (at_make; refine Stop.un ?_) | (at_builtin; refine Stop.un ?_) | (with_reducible refine Stop.conv 40 9 ?_) | (with_reducible refine Stop.conv 9 40 ?_))
  refine MixPost.mk hb2 ?_
  replace z1 := At.mono z1 hb2
  replace BB := Below.next BB hb2
  clear hb2
  refine mix_any 5 rfl (by kernel_rfl) rfl ?_
  go_wp2_with (first | (at_make; refine Stop.un ?_) | (at_builtin; refine Stop.un ?_) | (with_reducible refine Stop.conv 40 9 ?_) | (with_reducible refine Stop.conv 9 40 ?_))
  refine (HP2.out a2 n2 c2 _ cs2 HN2.out (by omega)).mono ?_
  rintro e w5 ⟨a5, n5, c5, h5, rfl, o5⟩
  have hb5 := Own.below o5
  have HN5 := Lib.hid h5
  have cs5 := Own.cs o5
  have hl5 : n5 ≤ 3000 := by have h1 := HL1.out; have h2 := HL2.out; have h3 := HL3.out; (try simp only [List.length_append] at h5); omega
  clear h5 o5
  go_wp2_with (first | (at_make; refine Stop.un ?_) | (at_builtin; refine Stop.un ?_) | (with_reducible refine Stop.conv 40 9 ?_) | (with_reducible refine Stop.conv 9 40 ?_))
  refine MixPost.mk hb5 ?_
  clear cs2
  replace z1 := At.mono z1 hb5
  replace BB := Below.next BB hb5
  clear hb5
  refine mix_any 8 rfl (by kernel_rfl) rfl ?_
  go_wp2_with (first | (at_make; refine Stop.un ?_) | (at_builtin; refine Stop.un ?_) | (with_reducible refine Stop.conv 40 9 ?_) | (with_reducible refine Stop.conv 9 40 ?_))
  refine (HI1.out a5 n5 c5 _ cs5 HN5.out (by omega)).mono ?_
  rintro e w8 ⟨a8, n8, c8, h8, rfl, o8⟩
  have hb8 := Own.below o8
  have HN8 := Lib.hid h8
  have cs8 := Own.cs o8
  have hl8 : n8 ≤ 3000 := by have h1 := HL1.out; have h2 := HL2.out; have h3 := HL3.out; (try simp only [List.length_append] at h8); omega
  clear h8 o8
  go_wp2_with (first | (at_make; refine Stop.un ?_) | (at_builtin; refine Stop.un ?_) | (with_reducible refine Stop.conv 40 9 ?_) | (with_reducible refine Stop.conv 9 40 ?_))
  refine MixPost.mk hb8 ?_
  clear cs5
  replace z1 := At.mono z1 hb8
  replace BB := Below.next BB hb8
  clear hb8
  refine mix_any 11 rfl (by kernel_rfl) rfl ?_
  go_wp2_with (first | (at_make; refine Stop.un ?_) | (at_builtin; refine Stop.un ?_) | (with_reducible refine Stop.conv 40 9 ?_) | (with_reducible refine Stop.conv 9 40 ?_))
  refine (HI2.out a8 n8 c8 _ cs8 HN8.out (by omega)).mono ?_
  rintro e w11 ⟨a11, n11, c11, h11, rfl, o11⟩
  have hb11 := Own.below o11
  have HN11 := Lib.hid h11
  have cs11 := Own.cs o11
  have OF := Own.up o11 BB
  clear h11 o11
  go_wp2_with (first | (at_make; refine Stop.un ?_) | (at_builtin; refine Stop.un ?_) | (with_reducible refine Stop.conv 40 9 ?_) | (with_reducible refine Stop.conv 9 40 ?_))
  refine MixPost.mk hb11 ?_
  clear cs8
  replace z1 := At.mono z1 hb11
  replace BB := Below.next BB hb11
  clear hb11
  refine mix_quiet Keeps.ext 12 rfl (by kernel_rfl) rfl ?_
  intro ι U hne hU
  go_big_quiet_op
  clear hU hne U ι
  show wpAnyM _ _ _ _ _ _ _ _ _
  refine mix_end (by kernel_rfl) ?_
  go_wp2_with (first | (at_make; refine Stop.un ?_) | (at_builtin; refine Stop.un ?_) | (with_reducible refine Stop.conv 40 9 ?_) | (with_reducible refine Stop.conv 9 40 ?_))
  go_ret
  exact ⟨_, _, _, HN11.out, rfl, OF⟩
end Go.Proofs.Ytdpmaocbfmgmlaa
