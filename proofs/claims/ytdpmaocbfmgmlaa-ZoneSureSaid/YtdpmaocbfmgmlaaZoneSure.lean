/- ZoneSure. -/
import Derived.Test.YtdpmaocbfmgmlaaZoneOf
import Derived.Deep.DeepCutAuto
import Derived.Deep.CutBlock
set_option linter.unusedVariables false
set_option linter.unusedSimpArgs false
namespace Go.Proofs.Ytdpmaocbfmgmlaa
open Go.RowKit
theorem truth_cases (u v : V) (q r : Bool) : (u.k = 0 ∧ truthV u v q = 1 ∧ truthV u v r = 1) ∨ (u.k ≠ 0 ∧ ((truthV u v q = 1 ∧ truthV u v r = 1) ∨ ((truthV u v q = 2 ∨ truthV u v q = 0) ∧ (truthV u v r = 2 ∨ truthV u v r = 0)))) := by
  unfold truthV
  by_cases h : u.k = 0
  · rw [if_pos (.inl h), if_pos (.inl h)]; exact .inl ⟨h, rfl, rfl⟩
  · refine .inr ⟨h, ?_⟩
    by_cases h2 : v.k = 0
    · rw [if_pos (.inr h2), if_pos (.inr h2)]; exact .inl ⟨rfl, rfl⟩
    · have hn : ¬ (u.k = 0 ∨ v.k = 0) := fun x => x.elim h h2
      simp only [if_neg hn]
      cases q <;> cases r <;> simp
set_option maxRecDepth 100000 in
set_option maxHeartbeats 64000000 in
theorem zoneSure_any (ao : Option Addr) (m cap : Nat) (l : List V) (v : V) (w : World) (hc : Cs w ao (vcells l)) (hm : l.length = m) (hl : m ≤ cap) (hcm : cap ≤ maxLen) (hv : v.s.size ≤ maxLen) :
    Calls Try.prog 6 #[.slice ao m cap, v.val] w (fun e w' => e = .returned (.bool true) ∧ Below w.heap.size w w') := by
  have HF1 := Lib.hid (fun w hc => few_any ao m cap l w hc hm hl hcm)
  have hf : fewN 0 l ≤ m := hm ▸ fewN_le l 0
  have hf3 := fewN_300 l 0 (by omega)
  generalize fewN 0 l = f at hf hf3 HF1
  have hx : (l.take f).length = f := by simp; omega
  have hcx := vcut hc f
  generalize l.take f = x at hx hcx
  have HX := Lib.hid hx
  have HO := Lib.hid (fun w hc => zof_any ao f cap x w hc hx (by omega) hcm)
  have HEQ := Lib.hid (fun w => zequal_any (ofZ x) v w)
  have HLE := Lib.hid (fun w => zless_any (ofZ x) v w)
  have HNU := Lib.hid (fun w => znull_any (ofZ x) w)
  have h300 : x.length ≤ 300 := by omega
  have HSE := Lib.hid (fun (u : V) (hu : u ∈ x) => sure_equal v h300 hu)
  have HSL := Lib.hid (fun (u : V) (hu : u ∈ x) => sure_less v h300 hu)
  have HSN := Lib.hid (fun (u : V) (hu : u ∈ x) => sure_null h300 hu)
  have HZ : Hid (f = 0 → (equalZ (ofZ x) v = ⟨false, false, false⟩) ∧ (lessZ (ofZ x) v = ⟨false, false, false⟩) ∧ (nullZ (ofZ x) = ⟨false, false, false⟩)) := Lib.hid (fun h => by
    rw [h] at hx
    rw [List.eq_nil_of_length_eq_zero hx]
    exact ofZ_nil v)
  generalize equalZ (ofZ x) v = E at HEQ HSE HZ
  generalize lessZ (ofZ x) v = L at HLE HSL HZ
  generalize nullZ (ofZ x) = N at HNU HSN HZ
  generalize ofZ x = zx at HO HEQ HLE HNU
  obtain ⟨⟨k, n, s⟩, ⟨k', n', s'⟩, nu, ma⟩ := zx
  obtain ⟨k2, n2, s2⟩ := v
  obtain ⟨ea, eb, ec⟩ := E
  obtain ⟨la, lb, lc⟩ := L
  obtain ⟨na, nb, nc⟩ := N
  simp only [Zn.val, V.val, Tri3.val] at HO HEQ HLE HNU hv ⊢
  simp only [Tri3.mk.injEq] at HZ
  unfold maxLen at hcm hv
  clear hx hm h300
  go_enter Try.func6, Try.ntmps6
  go_wp2_with (first | (at_make; refine Stop.un ?_) | (at_builtin; refine Stop.un ?_) | (with_reducible refine Stop.conv 40 9 ?_) | (with_reducible refine Stop.conv 9 40 ?_))
  refine (shown_any _).mono ?_
  rintro e w1 ⟨rfl, b1⟩
  have zv : At (w.alloc (.cells #[.int .u8 k2, .int .i64 n2, .string s2] 24)) (w.heap.size) #[.int .u8 k2, .int .i64 n2, .string s2] 24 := by simpa only [World.size_alloc, Nat.add_assoc, Nat.reduceAdd] using At.new w #[.int .u8 k2, .int .i64 n2, .string s2] 24
  have BB : Below w.heap.size w (w.alloc (.cells #[.int .u8 k2, .int .i64 n2, .string s2] 24)) := Below.alloc (Below.refl w.heap.size w) (by (try simp only [World.size_alloc]) <;> omega) (.cells #[.int .u8 k2, .int .i64 n2, .string s2] 24)
  have c1 := hc.mono BB (Nat.le_refl _)
  have d1 := hcx.mono BB (Nat.le_refl _)
  have hcx0 := hcx
  clear hc hcx
  replace zv := At.mono zv b1
  replace c1 := Cs.mono c1 b1 (Nat.le_refl _)
  replace d1 := Cs.mono d1 b1 (Nat.le_refl _)
  replace BB := Below.next BB b1
  clear b1
  have y0 := zv.cell 0 rfl
  have y1 := zv.cell 1 rfl
  have y2 := zv.cell 2 rfl
  have yl := zv.lt
  by_cases hs : s2.size ≤ 1100
  ·
    have hs2 : ¬ (1100 : Int) < s2.size := by omega
    go_wp2_with (first | (at_make; refine Stop.un ?_) | (at_builtin; refine Stop.un ?_) | (with_reducible refine Stop.conv 40 9 ?_) | (with_reducible refine Stop.conv 9 40 ?_))
    refine (HF1.out _ c1).mono ?_
    rintro e w2 ⟨rfl, rfl⟩
    clear c1
    go_wp2_with (first | (at_make; refine Stop.un ?_) | (at_builtin; refine Stop.un ?_) | (with_reducible refine Stop.conv 40 9 ?_) | (with_reducible refine Stop.conv 9 40 ?_))
    refine (HO.out _ d1).mono ?_
    rintro e w2 ⟨rfl, b2⟩
    clear y0 y1 y2 yl
    replace zv := At.mono zv b2
    replace d1 := Cs.mono d1 b2 (Nat.le_refl _)
    replace BB := Below.next BB b2
    clear b2
    go_upto_region 6 with fail
    have z7 := At.new w2 #[.int .u8 k, .int .i64 n, .string s, .int .u8 k', .int .i64 n', .string s', .int .i64 nu, .int .i64 ma] 26
    have bz := (Below.refl w2.heap.size w2).alloc (Nat.le_refl _) (.cells #[.int .u8 k, .int .i64 n, .string s, .int .u8 k', .int .i64 n', .string s', .int .i64 nu, .int .i64 ma] 26)
    have hgv := zv.lt
    replace zv := At.mono zv bz
    replace d1 := Cs.mono d1 bz (Nat.le_refl _)
    replace BB := Below.next BB bz
    clear bz
    have hg7 := z7.lt
    have hd7 : w.heap.size < w2.heap.size := hgv
    generalize w2.alloc (.cells #[.int .u8 k, .int .i64 n, .string s, .int .u8 k', .int .i64 n', .string s', .int .i64 nu, .int .i64 ma] 26) = w3 at zv z7 d1 BB hg7 ⊢
    generalize w2.heap.size = g7 at z7 hg7 hd7 ⊢
    have HSZ : Hid (w3.heap.size ≤ w3.heap.size) := Lib.hid (Nat.le_refl _)
    have z7_b : g7 < w3.heap.size := hg7
    have zv_b : w.heap.size < w3.heap.size := by omega
    refine mix_startX (w3.heap.size) none 14 rfl (by kernel_rfl) ?_
    intro xq hxq
    replace zv := At.mono zv hxq
    replace z7 := At.mono z7 hxq
    replace d1 := Cs.mono d1 hxq (Nat.le_refl _)
    replace BB := Below.next BB hxq
    replace HSZ := Lib.hid (Nat.le_trans (Hid.out HSZ) (Below.size hxq))
    clear hxq
    refine mix_quiet (Keeps.rx (w3.heap.size) none) 0 rfl (by kernel_rfl) rfl ?_
    intro ι U hne hU
    have hcw0 := fun ii => (RX.at (hU ii) zv zv_b).cell 0 rfl
    have hcw1 := fun ii => (RX.at (hU ii) zv zv_b).cell 1 rfl
    have hcw2 := fun ii => (RX.at (hU ii) zv zv_b).cell 2 rfl
    have hcw3 := fun ii => (RX.at (hU ii) z7 z7_b).cell 0 rfl
    have hcw4 := fun ii => (RX.at (hU ii) z7 z7_b).cell 1 rfl
    have hcw5 := fun ii => (RX.at (hU ii) z7 z7_b).cell 2 rfl
    have hcw6 := fun ii => (RX.at (hU ii) z7 z7_b).cell 3 rfl
    have hcw7 := fun ii => (RX.at (hU ii) z7 z7_b).cell 4 rfl
    have hcw8 := fun ii => (RX.at (hU ii) z7 z7_b).cell 5 rfl
    have hcw9 := fun ii => (RX.at (hU ii) z7 z7_b).cell 6 rfl
    have hcw10 := fun ii => (RX.at (hU ii) z7 z7_b).cell 7 rfl
    go_big_quiet_op
    clear hU hne hcw0 hcw1 hcw2 hcw3 hcw4 hcw5 hcw6 hcw7 hcw8 hcw9 hcw10 U ι
    show wpAnyM _ _ _ _ _ _ _ _ _
    refine mix_quiet (Keeps.rx (w3.heap.size) none) 1 rfl (by kernel_rfl) rfl ?_
    intro ι U hne hU
    have hcw0 := fun ii => (RX.at (hU ii) zv zv_b).cell 0 rfl
    have hcw1 := fun ii => (RX.at (hU ii) zv zv_b).cell 1 rfl
    have hcw2 := fun ii => (RX.at (hU ii) zv zv_b).cell 2 rfl
    have hcw3 := fun ii => (RX.at (hU ii) z7 z7_b).cell 0 rfl
    have hcw4 := fun ii => (RX.at (hU ii) z7 z7_b).cell 1 rfl
    have hcw5 := fun ii => (RX.at (hU ii) z7 z7_b).cell 2 rfl
    have hcw6 := fun ii => (RX.at (hU ii) z7 z7_b).cell 3 rfl
    have hcw7 := fun ii => (RX.at (hU ii) z7 z7_b).cell 4 rfl
    have hcw8 := fun ii => (RX.at (hU ii) z7 z7_b).cell 5 rfl
    have hcw9 := fun ii => (RX.at (hU ii) z7 z7_b).cell 6 rfl
    have hcw10 := fun ii => (RX.at (hU ii) z7 z7_b).cell 7 rfl
    go_big_quiet_op
    clear hU hne hcw0 hcw1 hcw2 hcw3 hcw4 hcw5 hcw6 hcw7 hcw8 hcw9 hcw10 U ι
    show wpAnyM _ _ _ _ _ _ _ _ _
    refine mix_quiet (Keeps.rx (w3.heap.size) none) 3 rfl (by kernel_rfl) rfl ?_
    intro ι U hne hU
    have hcw0 := fun ii => (RX.at (hU ii) zv zv_b).cell 0 rfl
    have hcw1 := fun ii => (RX.at (hU ii) zv zv_b).cell 1 rfl
    have hcw2 := fun ii => (RX.at (hU ii) zv zv_b).cell 2 rfl
    have hcw3 := fun ii => (RX.at (hU ii) z7 z7_b).cell 0 rfl
    have hcw4 := fun ii => (RX.at (hU ii) z7 z7_b).cell 1 rfl
    have hcw5 := fun ii => (RX.at (hU ii) z7 z7_b).cell 2 rfl
    have hcw6 := fun ii => (RX.at (hU ii) z7 z7_b).cell 3 rfl
    have hcw7 := fun ii => (RX.at (hU ii) z7 z7_b).cell 4 rfl
    have hcw8 := fun ii => (RX.at (hU ii) z7 z7_b).cell 5 rfl
    have hcw9 := fun ii => (RX.at (hU ii) z7 z7_b).cell 6 rfl
    have hcw10 := fun ii => (RX.at (hU ii) z7 z7_b).cell 7 rfl
    go_big_quiet_op
    clear hU hne hcw0 hcw1 hcw2 hcw3 hcw4 hcw5 hcw6 hcw7 hcw8 hcw9 hcw10 U ι
    show wpAnyM _ _ _ _ _ _ _ _ _
    refine mix_quiet (Keeps.rx (w3.heap.size) none) 4 rfl (by kernel_rfl) rfl ?_
    intro ι U hne hU
    have hcw0 := fun ii => (RX.at (hU ii) zv zv_b).cell 0 rfl
    have hcw1 := fun ii => (RX.at (hU ii) zv zv_b).cell 1 rfl
    have hcw2 := fun ii => (RX.at (hU ii) zv zv_b).cell 2 rfl
    have hcw3 := fun ii => (RX.at (hU ii) z7 z7_b).cell 0 rfl
    have hcw4 := fun ii => (RX.at (hU ii) z7 z7_b).cell 1 rfl
    have hcw5 := fun ii => (RX.at (hU ii) z7 z7_b).cell 2 rfl
    have hcw6 := fun ii => (RX.at (hU ii) z7 z7_b).cell 3 rfl
    have hcw7 := fun ii => (RX.at (hU ii) z7 z7_b).cell 4 rfl
    have hcw8 := fun ii => (RX.at (hU ii) z7 z7_b).cell 5 rfl
    have hcw9 := fun ii => (RX.at (hU ii) z7 z7_b).cell 6 rfl
    have hcw10 := fun ii => (RX.at (hU ii) z7 z7_b).cell 7 rfl
    go_big_quiet_op
    clear hU hne hcw0 hcw1 hcw2 hcw3 hcw4 hcw5 hcw6 hcw7 hcw8 hcw9 hcw10 U ι
    show wpAnyM _ _ _ _ _ _ _ _ _
    refine mix_quiet (Keeps.rx (w3.heap.size) none) 6 rfl (by kernel_rfl) rfl ?_
    intro ι U hne hU
    have hcw0 := fun ii => (RX.at (hU ii) zv zv_b).cell 0 rfl
    have hcw1 := fun ii => (RX.at (hU ii) zv zv_b).cell 1 rfl
    have hcw2 := fun ii => (RX.at (hU ii) zv zv_b).cell 2 rfl
    have hcw3 := fun ii => (RX.at (hU ii) z7 z7_b).cell 0 rfl
    have hcw4 := fun ii => (RX.at (hU ii) z7 z7_b).cell 1 rfl
    have hcw5 := fun ii => (RX.at (hU ii) z7 z7_b).cell 2 rfl
    have hcw6 := fun ii => (RX.at (hU ii) z7 z7_b).cell 3 rfl
    have hcw7 := fun ii => (RX.at (hU ii) z7 z7_b).cell 4 rfl
    have hcw8 := fun ii => (RX.at (hU ii) z7 z7_b).cell 5 rfl
    have hcw9 := fun ii => (RX.at (hU ii) z7 z7_b).cell 6 rfl
    have hcw10 := fun ii => (RX.at (hU ii) z7 z7_b).cell 7 rfl
    go_big_quiet_op
    clear hU hne hcw0 hcw1 hcw2 hcw3 hcw4 hcw5 hcw6 hcw7 hcw8 hcw9 hcw10 U ι
    show wpAnyM _ _ _ _ _ _ _ _ _
    refine mix_abs (fun W hW => ?_)
    have zv0 := zv
    have z70 := z7
    have d10 := d1
    have BB0 := BB
    have HSZ0 := HSZ
    clear zv z7 d1 BB HSZ
    have H3_89a : ∀ (wx : World) (zv : At wx w.heap.size #[.int .u8 k2, .int .i64 n2, .string s2] 24) (z7 : At wx g7 #[.int .u8 k, .int .i64 n, .string s, .int .u8 k', .int .i64 n', .string s', .int .i64 nu, .int .i64 ma] 26) (d1 : Cs wx ao (vcells x)) (BB : Below w.heap.size w wx) (HSZ : Hid (w3.heap.size ≤ wx.heap.size)) (g8 : Nat) (z8 : At wx g8 #[.bool false, .bool false, .bool false] 34) (h8 : w3.heap.size ≤ g8) (g9 : Nat) (z9 : At wx g9 #[.bool false, .bool false, .bool false] 34) (h9 : w3.heap.size ≤ g9) (g10 : Nat) (z10 : At wx g10 #[.bool false, .bool false, .bool false] 34) (h10 : w3.heap.size ≤ g10) (e8_9 : g8 ≠ g9) (e8_10 : g8 ≠ g10) (e9_10 : g9 ≠ g10), W 3 #[true, true, true, true, true, true, true, true, true, true, true, false, false, false] wx ⟨#[.slice ao m cap, .agg #[.int .u8 k2, .int .i64 n2, .string s2], undef, .pointer (some ⟨w.heap.size, 0, none⟩), .bool false, .bool true, .slice ao f cap, .pointer (some ⟨g7, 0, none⟩), .pointer (some ⟨g8, 0, none⟩), .pointer (some ⟨g9, 0, none⟩), .pointer (some ⟨g10, 0, none⟩), undef, undef, undef, undef, .bool true, .pointer (some ⟨w.heap.size, 2, none⟩), .string s2, .int .i64 (s2.size : Int), .bool (decide (1100 < (s2.size : Int))), undef, .slice ao m cap, .slice ao f cap, .slice ao f cap, .agg #[.int .u8 k, .int .i64 n, .string s, .int .u8 k', .int .i64 n', .string s', .int .i64 nu, .int .i64 ma], .agg #[.int .u8 k, .int .i64 n, .string s, .int .u8 k', .int .i64 n', .string s', .int .i64 nu, .int .i64 ma], .agg #[.int .u8 k2, .int .i64 n2, .string s2], .agg #[.bool ea, .bool eb, .bool ec], .agg #[.int .u8 k, .int .i64 n, .string s, .int .u8 k', .int .i64 n', .string s', .int .i64 nu, .int .i64 ma], .agg #[.int .u8 k2, .int .i64 n2, .string s2], .agg #[.bool la, .bool lb, .bool lc], .agg #[.int .u8 k, .int .i64 n, .string s, .int .u8 k', .int .i64 n', .string s', .int .i64 nu, .int .i64 ma], .agg #[.bool na, .bool nb, .bool nc], undef, undef, undef, undef, undef, undef, undef, undef, undef, undef, undef, undef, undef, undef, undef, undef, undef, undef, undef, undef, undef, undef, undef, undef, undef, undef, undef, undef, undef, undef, undef, undef, undef, undef, undef, undef, undef, undef, undef, undef, undef, undef, undef, undef, undef, undef, undef, undef, undef, undef, undef, undef, undef, undef, undef, undef, undef, undef, undef, undef, undef, undef, undef, undef, undef, undef, undef, undef, undef, undef, undef, undef], []⟩ := by
      intro wx zv z7 d1 BB HSZ g8 z8 h8 g9 z9 h9 g10 z10 h10 e8_9 e8_10 e9_10
      rw [hW]
      refine mix_any 11 rfl (by kernel_rfl) rfl ?_
      have fq0 := z8.free 0
      have gq0 := z8.cell 0 rfl
      have fq1 := z8.free 1
      have gq1 := z8.cell 1 rfl
      have fq2 := z8.free 2
      have gq2 := z8.cell 2 rfl
      have lq := z8.lt
      go_wp2_with (first | (at_make; refine Stop.un ?_) | (at_builtin; refine Stop.un ?_) | (with_reducible refine Stop.conv 40 9 ?_) | (with_reducible refine Stop.conv 9 40 ?_))
      refine MixPost.mk (RX.set3 _ _ _ _ h8) ?_
      clear lq fq0 gq0 fq1 gq1 fq2 gq2
      replace z9 := z9.off3 (g := g8) (.bool ea) (.bool eb) (.bool ec) e8_9.symm
      replace z10 := z10.off3 (g := g8) (.bool ea) (.bool eb) (.bool ec) e8_10.symm
      replace zv := zv.off3 (g := g8) (.bool ea) (.bool eb) (.bool ec) (by omega)
      replace BB := below_set3 (g := g8) BB (.bool ea) (.bool eb) (.bool ec) (by omega)
      replace z8 := z8.set3 (.bool ea) (.bool eb) (.bool ec)
      refine mix_any 12 rfl (by kernel_rfl) rfl ?_
      have fq0 := z9.free 0
      have gq0 := z9.cell 0 rfl
      have fq1 := z9.free 1
      have gq1 := z9.cell 1 rfl
      have fq2 := z9.free 2
      have gq2 := z9.cell 2 rfl
      have lq := z9.lt
      go_wp2_with (first | (at_make; refine Stop.un ?_) | (at_builtin; refine Stop.un ?_) | (with_reducible refine Stop.conv 40 9 ?_) | (with_reducible refine Stop.conv 9 40 ?_))
      refine MixPost.mk (RX.set3 _ _ _ _ h9) ?_
      clear lq fq0 gq0 fq1 gq1 fq2 gq2
      replace z8 := z8.off3 (g := g9) (.bool la) (.bool lb) (.bool lc) e8_9
      replace z10 := z10.off3 (g := g9) (.bool la) (.bool lb) (.bool lc) e9_10.symm
      replace zv := zv.off3 (g := g9) (.bool la) (.bool lb) (.bool lc) (by omega)
      replace BB := below_set3 (g := g9) BB (.bool la) (.bool lb) (.bool lc) (by omega)
      replace z9 := z9.set3 (.bool la) (.bool lb) (.bool lc)
      refine mix_any 13 rfl (by kernel_rfl) rfl ?_
      have fq0 := z10.free 0
      have gq0 := z10.cell 0 rfl
      have fq1 := z10.free 1
      have gq1 := z10.cell 1 rfl
      have fq2 := z10.free 2
      have gq2 := z10.cell 2 rfl
      have lq := z10.lt
      go_wp2_with (first | (at_make; refine Stop.un ?_) | (at_builtin; refine Stop.un ?_) | (with_reducible refine Stop.conv 40 9 ?_) | (with_reducible refine Stop.conv 9 40 ?_))
      refine MixPost.mk (RX.set3 _ _ _ _ h10) ?_
      clear lq fq0 gq0 fq1 gq1 fq2 gq2
      replace z8 := z8.off3 (g := g10) (.bool na) (.bool nb) (.bool nc) e8_10
      replace z9 := z9.off3 (g := g10) (.bool na) (.bool nb) (.bool nc) e9_10
      replace zv := zv.off3 (g := g10) (.bool na) (.bool nb) (.bool nc) (by omega)
      replace BB := below_set3 (g := g10) BB (.bool na) (.bool nb) (.bool nc) (by omega)
      replace z10 := z10.set3 (.bool na) (.bool nb) (.bool nc)
      refine mix_end (by kernel_rfl) ?_
      clear z7 HSZ d1 hW
      have d1 := hcx0.mono BB (Nat.le_refl _)
      go_wp2_with (first | (at_make; refine Stop.un ?_) | (at_builtin; refine Stop.un ?_) | (with_reducible refine Stop.conv 40 9 ?_) | (with_reducible refine Stop.conv 9 40 ?_))
      go_loopw [12, 13, 14, 35] (fun _ _ _ i wr => ∃ j : Nat, j ≤ f ∧ i = .int .i64 (j : Int) ∧ At wr g8 #[.bool ea, .bool eb, .bool ec] 34 ∧ At wr g9 #[.bool la, .bool lb, .bool lc] 34 ∧ At wr g10 #[.bool na, .bool nb, .bool nc] 34 ∧ At wr w.heap.size #[.int .u8 k2, .int .i64 n2, .string s2] 24 ∧ Below w.heap.size w wr) (fun _ _ _ i _ => f - (intOf i).toNat)
      case atStart => exact ⟨0, by omega, rfl, z8, z9, z10, zv, BB⟩
      case round =>
        clear z8 z9 z10 zv BB d1
        obtain ⟨j, hj, rfl, z8, z9, z10, zv, BB⟩ := hrel
        by_cases hlt : j < f
        ·
          have hjl : j < x.length := by have := HX.out; omega
          have d1 := hcx0.mono BB (Nat.le_refl _)
          obtain ⟨q, o, rfl⟩ := d1.addr (by rw [vcells_length]; omega)
          obtain ⟨x0, x1, x2⟩ := d1.vat hjl
          have hse := HSE.out x[j] (List.getElem_mem _)
          have hsl := HSL.out x[j] (List.getElem_mem _)
          have hsn := HSN.out x[j] (List.getElem_mem _)
          generalize x[j] = u at x0 x1 x2 hse hsl hsn
          obtain ⟨k5, n5, s5⟩ := u
          simp only at x0 x1 x2 hsn
          have HQ1 := Lib.hid (fun w => equal_x k5 n5 s5 k2 n2 s2 w)
          have HQ2 := Lib.hid (fun w => less_x k5 n5 s5 k2 n2 s2 w)
          have hcs : (k5 = 0 ∧ truthV ⟨k5, n5, s5⟩ ⟨k2, n2, s2⟩ (eqV ⟨k5, n5, s5⟩ ⟨k2, n2, s2⟩) = 1 ∧ truthV ⟨k5, n5, s5⟩ ⟨k2, n2, s2⟩ (decide (cmpV ⟨k5, n5, s5⟩ ⟨k2, n2, s2⟩ < 0)) = 1) ∨ (k5 ≠ 0 ∧ ((truthV ⟨k5, n5, s5⟩ ⟨k2, n2, s2⟩ (eqV ⟨k5, n5, s5⟩ ⟨k2, n2, s2⟩) = 1 ∧ truthV ⟨k5, n5, s5⟩ ⟨k2, n2, s2⟩ (decide (cmpV ⟨k5, n5, s5⟩ ⟨k2, n2, s2⟩ < 0)) = 1) ∨ ((truthV ⟨k5, n5, s5⟩ ⟨k2, n2, s2⟩ (eqV ⟨k5, n5, s5⟩ ⟨k2, n2, s2⟩) = 2 ∨ truthV ⟨k5, n5, s5⟩ ⟨k2, n2, s2⟩ (eqV ⟨k5, n5, s5⟩ ⟨k2, n2, s2⟩) = 0) ∧ (truthV ⟨k5, n5, s5⟩ ⟨k2, n2, s2⟩ (decide (cmpV ⟨k5, n5, s5⟩ ⟨k2, n2, s2⟩ < 0)) = 2 ∨ truthV ⟨k5, n5, s5⟩ ⟨k2, n2, s2⟩ (decide (cmpV ⟨k5, n5, s5⟩ ⟨k2, n2, s2⟩ < 0)) = 0)))) := truth_cases ⟨k5, n5, s5⟩ ⟨k2, n2, s2⟩ (eqV ⟨k5, n5, s5⟩ ⟨k2, n2, s2⟩) (decide (cmpV ⟨k5, n5, s5⟩ ⟨k2, n2, s2⟩ < 0))
          generalize truthV ⟨k5, n5, s5⟩ ⟨k2, n2, s2⟩ (eqV ⟨k5, n5, s5⟩ ⟨k2, n2, s2⟩) = A at hse HQ1 hcs
          generalize truthV ⟨k5, n5, s5⟩ ⟨k2, n2, s2⟩ (decide (cmpV ⟨k5, n5, s5⟩ ⟨k2, n2, s2⟩ < 0)) = D at hsl HQ2 hcs
          have HAE := Lib.hid hse
          have HDL := Lib.hid hsl
          have HNN := Lib.hid hsn
          have HCS := Lib.hid hcs
          clear hse hsl hsn hcs hjl d1
          have zr := At.new wr #[.int .u8 k5, .int .i64 n5, .string s5] 24
          have bz := (Below.refl wr.heap.size wr).alloc (Nat.le_refl _) (.cells #[.int .u8 k5, .int .i64 n5, .string s5] 24)
          go_wp2_with (first | (at_make; refine Stop.un ?_) | (at_builtin; refine Stop.un ?_) | (with_reducible refine Stop.conv 40 9 ?_) | (with_reducible refine Stop.conv 9 40 ?_))
          replace z8 := At.mono z8 bz
          replace z9 := At.mono z9 bz
          replace z10 := At.mono z10 bz
          replace zv := At.mono zv bz
          replace BB := Below.next BB bz
          clear bz x0 x1 x2
          refine mix_startE 8 rfl (by kernel_rfl) ?_
          intro xq hxq
          replace z8 := At.mono z8 hxq
          replace z9 := At.mono z9 hxq
          replace z10 := At.mono z10 hxq
          replace zv := At.mono zv hxq
          replace BB := Below.next BB hxq
          replace zr := At.mono zr hxq
          clear hxq
          refine mix_quiet Keeps.ext 0 rfl (by kernel_rfl) rfl ?_
          intro ι U hne hU
          have hcw0 := fun ii => (At.mono zr (hU ii)).cell 0 rfl
          have hcw1 := fun ii => (At.mono zr (hU ii)).cell 1 rfl
          have hcw2 := fun ii => (At.mono zr (hU ii)).cell 2 rfl
          have hcw3 := fun ii => (At.mono zv (hU ii)).cell 0 rfl
          have hcw4 := fun ii => (At.mono zv (hU ii)).cell 1 rfl
          have hcw5 := fun ii => (At.mono zv (hU ii)).cell 2 rfl
          go_big_quiet_op
          clear hU hne hcw0 hcw1 hcw2 hcw3 hcw4 hcw5 U ι
          show wpAnyM _ _ _ _ _ _ _ _ _
          refine mix_quiet Keeps.ext 1 rfl (by kernel_rfl) rfl ?_
          intro ι U hne hU
          have hcw0 := fun ii => (At.mono zr (hU ii)).cell 0 rfl
          have hcw1 := fun ii => (At.mono zr (hU ii)).cell 1 rfl
          have hcw2 := fun ii => (At.mono zr (hU ii)).cell 2 rfl
          have hcw3 := fun ii => (At.mono zv (hU ii)).cell 0 rfl
          have hcw4 := fun ii => (At.mono zv (hU ii)).cell 1 rfl
          have hcw5 := fun ii => (At.mono zv (hU ii)).cell 2 rfl
          go_big_quiet_op
          clear hU hne hcw0 hcw1 hcw2 hcw3 hcw4 hcw5 U ι
          show wpAnyM _ _ _ _ _ _ _ _ _
          refine mix_quiet Keeps.ext 3 rfl (by kernel_rfl) rfl ?_
          intro ι U hne hU
          have hcw0 := fun ii => (At.mono zr (hU ii)).cell 0 rfl
          have hcw1 := fun ii => (At.mono zr (hU ii)).cell 1 rfl
          have hcw2 := fun ii => (At.mono zr (hU ii)).cell 2 rfl
          have hcw3 := fun ii => (At.mono zv (hU ii)).cell 0 rfl
          have hcw4 := fun ii => (At.mono zv (hU ii)).cell 1 rfl
          have hcw5 := fun ii => (At.mono zv (hU ii)).cell 2 rfl
          go_big_quiet_op
          clear hU hne hcw0 hcw1 hcw2 hcw3 hcw4 hcw5 U ι
          show wpAnyM _ _ _ _ _ _ _ _ _
          refine mix_quiet Keeps.ext 4 rfl (by kernel_rfl) rfl ?_
          intro ι U hne hU
          have hcw0 := fun ii => (At.mono zr (hU ii)).cell 0 rfl
          have hcw1 := fun ii => (At.mono zr (hU ii)).cell 1 rfl
          have hcw2 := fun ii => (At.mono zr (hU ii)).cell 2 rfl
          have hcw3 := fun ii => (At.mono zv (hU ii)).cell 0 rfl
          have hcw4 := fun ii => (At.mono zv (hU ii)).cell 1 rfl
          have hcw5 := fun ii => (At.mono zv (hU ii)).cell 2 rfl
          go_big_quiet_op
          clear hU hne hcw0 hcw1 hcw2 hcw3 hcw4 hcw5 U ι
          show wpAnyM _ _ _ _ _ _ _ _ _
          refine mix_any 2 rfl (by kernel_rfl) rfl ?_
          go_wp2_with (first | (at_make; refine Stop.un ?_) | (at_builtin; refine Stop.un ?_) | (with_reducible refine Stop.conv 40 9 ?_) | (with_reducible refine Stop.conv 9 40 ?_))
          refine (HQ1.out _).mono ?_
          rintro e wq1 ⟨rfl, bq1⟩
          go_wp2_with (first | (at_make; refine Stop.un ?_) | (at_builtin; refine Stop.un ?_) | (with_reducible refine Stop.conv 40 9 ?_) | (with_reducible refine Stop.conv 9 40 ?_))
          refine MixPost.mk bq1 ?_
          replace z8 := At.mono z8 bq1
          replace z9 := At.mono z9 bq1
          replace z10 := At.mono z10 bq1
          replace zv := At.mono zv bq1
          replace BB := Below.next BB bq1
          replace zr := At.mono zr bq1
          clear bq1
          refine mix_any 5 rfl (by kernel_rfl) rfl ?_
          go_wp2_with (first | (at_make; refine Stop.un ?_) | (at_builtin; refine Stop.un ?_) | (with_reducible refine Stop.conv 40 9 ?_) | (with_reducible refine Stop.conv 9 40 ?_))
          refine (HQ2.out _).mono ?_
          rintro e wq2 ⟨rfl, bq2⟩
          go_wp2_with (first | (at_make; refine Stop.un ?_) | (at_builtin; refine Stop.un ?_) | (with_reducible refine Stop.conv 40 9 ?_) | (with_reducible refine Stop.conv 9 40 ?_))
          refine MixPost.mk bq2 ?_
          replace z8 := At.mono z8 bq2
          replace z9 := At.mono z9 bq2
          replace z10 := At.mono z10 bq2
          replace zv := At.mono zv bq2
          replace BB := Below.next BB bq2
          replace zr := At.mono zr bq2
          clear bq2
          refine mix_quiet Keeps.ext 6 rfl (by kernel_rfl) rfl ?_
          intro ι U hne hU
          go_big_quiet_op
          clear hU hne U ι
          show wpAnyM _ _ _ _ _ _ _ _ _
          refine mix_quiet Keeps.ext 7 rfl (by kernel_rfl) rfl ?_
          intro ι U hne hU
          go_big_quiet_op
          clear hU hne U ι
          show wpAnyM _ _ _ _ _ _ _ _ _
          refine mix_end (by kernel_rfl) ?_
          rcases HCS.out with ⟨hk, e1, e2⟩ | ⟨hk, ⟨e1, e2⟩ | ⟨e1 | e1, e2 | e2⟩⟩
          ·
            subst e1 e2
            have ha := HAE.out
            have hd := HDL.out
            have hn := HNN.out.1 hk
            simp only [Tri3.at] at ha hd
            try simp at ha hd
            try simp only at hn
            subst ha hd hn
            subst hk
            have hk2 : True := trivial
            have hk3 : True := trivial
            clear HAE HDL HNN HCS HQ1 HQ2
            have z8f0 := z8.cell 0 rfl
            have z8f1 := z8.cell 1 rfl
            have z8f2 := z8.cell 2 rfl
            have z8l := z8.lt
            have z9f0 := z9.cell 0 rfl
            have z9f1 := z9.cell 1 rfl
            have z9f2 := z9.cell 2 rfl
            have z9l := z9.lt
            have z10f0 := z10.cell 0 rfl
            have z10f1 := z10.cell 1 rfl
            have z10f2 := z10.cell 2 rfl
            have z10l := z10.lt
            have r0 := zr.cell 0 rfl
            have rl := zr.lt
            go_wp2_with (first | (at_make; refine Stop.un ?_) | (at_builtin; refine Stop.un ?_) | (with_reducible refine Stop.conv 40 9 ?_) | (with_reducible refine Stop.conv 9 40 ?_))
            go_roundw
            case rel => exact ⟨j + 1, by omega, by go_num, z8, z9, z10, zv, BB⟩
            case measure => simp [intOf]; omega
          ·
            subst e1 e2
            have ha := HAE.out
            have hd := HDL.out
            have hn := HNN.out.2 hk
            simp only [Tri3.at] at ha hd
            try simp at ha hd
            try simp only at hn
            subst ha hd hn
            have hk2 : (k5 == 0) = false := by simpa using hk
            have hk3 : (k5 != 0) = true := by simpa using hk
            clear HAE HDL HNN HCS HQ1 HQ2
            have z8f0 := z8.cell 0 rfl
            have z8f1 := z8.cell 1 rfl
            have z8f2 := z8.cell 2 rfl
            have z8l := z8.lt
            have z9f0 := z9.cell 0 rfl
            have z9f1 := z9.cell 1 rfl
            have z9f2 := z9.cell 2 rfl
            have z9l := z9.lt
            have z10f0 := z10.cell 0 rfl
            have z10f1 := z10.cell 1 rfl
            have z10f2 := z10.cell 2 rfl
            have z10l := z10.lt
            have r0 := zr.cell 0 rfl
            have rl := zr.lt
            go_wp2_with (first | (at_make; refine Stop.un ?_) | (at_builtin; refine Stop.un ?_) | (with_reducible refine Stop.conv 40 9 ?_) | (with_reducible refine Stop.conv 9 40 ?_))
            go_roundw
            case rel => exact ⟨j + 1, by omega, by go_num, z8, z9, z10, zv, BB⟩
            case measure => simp [intOf]; omega
          ·
            subst e1 e2
            have ha := HAE.out
            have hd := HDL.out
            have hn := HNN.out.2 hk
            simp only [Tri3.at] at ha hd
            try simp at ha hd
            try simp only at hn
            subst ha hd hn
            have hk2 : (k5 == 0) = false := by simpa using hk
            have hk3 : (k5 != 0) = true := by simpa using hk
            clear HAE HDL HNN HCS HQ1 HQ2
            have z8f0 := z8.cell 0 rfl
            have z8f1 := z8.cell 1 rfl
            have z8f2 := z8.cell 2 rfl
            have z8l := z8.lt
            have z9f0 := z9.cell 0 rfl
            have z9f1 := z9.cell 1 rfl
            have z9f2 := z9.cell 2 rfl
            have z9l := z9.lt
            have z10f0 := z10.cell 0 rfl
            have z10f1 := z10.cell 1 rfl
            have z10f2 := z10.cell 2 rfl
            have z10l := z10.lt
            have r0 := zr.cell 0 rfl
            have rl := zr.lt
            go_wp2_with (first | (at_make; refine Stop.un ?_) | (at_builtin; refine Stop.un ?_) | (with_reducible refine Stop.conv 40 9 ?_) | (with_reducible refine Stop.conv 9 40 ?_))
            go_roundw
            case rel => exact ⟨j + 1, by omega, by go_num, z8, z9, z10, zv, BB⟩
            case measure => simp [intOf]; omega
          ·
            subst e1 e2
            have ha := HAE.out
            have hd := HDL.out
            have hn := HNN.out.2 hk
            simp only [Tri3.at] at ha hd
            try simp at ha hd
            try simp only at hn
            subst ha hd hn
            have hk2 : (k5 == 0) = false := by simpa using hk
            have hk3 : (k5 != 0) = true := by simpa using hk
            clear HAE HDL HNN HCS HQ1 HQ2
            have z8f0 := z8.cell 0 rfl
            have z8f1 := z8.cell 1 rfl
            have z8f2 := z8.cell 2 rfl
            have z8l := z8.lt
            have z9f0 := z9.cell 0 rfl
            have z9f1 := z9.cell 1 rfl
            have z9f2 := z9.cell 2 rfl
            have z9l := z9.lt
            have z10f0 := z10.cell 0 rfl
            have z10f1 := z10.cell 1 rfl
            have z10f2 := z10.cell 2 rfl
            have z10l := z10.lt
            have r0 := zr.cell 0 rfl
            have rl := zr.lt
            go_wp2_with (first | (at_make; refine Stop.un ?_) | (at_builtin; refine Stop.un ?_) | (with_reducible refine Stop.conv 40 9 ?_) | (with_reducible refine Stop.conv 9 40 ?_))
            go_roundw
            case rel => exact ⟨j + 1, by omega, by go_num, z8, z9, z10, zv, BB⟩
            case measure => simp [intOf]; omega
          ·
            subst e1 e2
            have ha := HAE.out
            have hd := HDL.out
            have hn := HNN.out.2 hk
            simp only [Tri3.at] at ha hd
            try simp at ha hd
            try simp only at hn
            subst ha hd hn
            have hk2 : (k5 == 0) = false := by simpa using hk
            have hk3 : (k5 != 0) = true := by simpa using hk
            clear HAE HDL HNN HCS HQ1 HQ2
            have z8f0 := z8.cell 0 rfl
            have z8f1 := z8.cell 1 rfl
            have z8f2 := z8.cell 2 rfl
            have z8l := z8.lt
            have z9f0 := z9.cell 0 rfl
            have z9f1 := z9.cell 1 rfl
            have z9f2 := z9.cell 2 rfl
            have z9l := z9.lt
            have z10f0 := z10.cell 0 rfl
            have z10f1 := z10.cell 1 rfl
            have z10f2 := z10.cell 2 rfl
            have z10l := z10.lt
            have r0 := zr.cell 0 rfl
            have rl := zr.lt
            go_wp2_with (first | (at_make; refine Stop.un ?_) | (at_builtin; refine Stop.un ?_) | (with_reducible refine Stop.conv 40 9 ?_) | (with_reducible refine Stop.conv 9 40 ?_))
            go_roundw
            case rel => exact ⟨j + 1, by omega, by go_num, z8, z9, z10, zv, BB⟩
            case measure => simp [intOf]; omega
          ·
            subst e1 e2
            have ha := HAE.out
            have hd := HDL.out
            have hn := HNN.out.2 hk
            simp only [Tri3.at] at ha hd
            try simp at ha hd
            try simp only at hn
            subst ha hd hn
            have hk2 : (k5 == 0) = false := by simpa using hk
            have hk3 : (k5 != 0) = true := by simpa using hk
            clear HAE HDL HNN HCS HQ1 HQ2
            have z8f0 := z8.cell 0 rfl
            have z8f1 := z8.cell 1 rfl
            have z8f2 := z8.cell 2 rfl
            have z8l := z8.lt
            have z9f0 := z9.cell 0 rfl
            have z9f1 := z9.cell 1 rfl
            have z9f2 := z9.cell 2 rfl
            have z9l := z9.lt
            have z10f0 := z10.cell 0 rfl
            have z10f1 := z10.cell 1 rfl
            have z10f2 := z10.cell 2 rfl
            have z10l := z10.lt
            have r0 := zr.cell 0 rfl
            have rl := zr.lt
            go_wp2_with (first | (at_make; refine Stop.un ?_) | (at_builtin; refine Stop.un ?_) | (with_reducible refine Stop.conv 40 9 ?_) | (with_reducible refine Stop.conv 9 40 ?_))
            go_roundw
            case rel => exact ⟨j + 1, by omega, by go_num, z8, z9, z10, zv, BB⟩
            case measure => simp [intOf]; omega
        ·
          have hjf : j = f := by omega
          subst hjf
          have z8f0 := z8.cell 0 rfl
          have z8f1 := z8.cell 1 rfl
          have z8f2 := z8.cell 2 rfl
          have z8l := z8.lt
          have z9f0 := z9.cell 0 rfl
          have z9f1 := z9.cell 1 rfl
          have z9f2 := z9.cell 2 rfl
          have z9l := z9.lt
          have z10f0 := z10.cell 0 rfl
          have z10f1 := z10.cell 1 rfl
          have z10f2 := z10.cell 2 rfl
          have z10l := z10.lt
          by_cases hf0 : j = 0
          ·
            obtain ⟨⟨q1, q2, q3⟩, ⟨q4, q5, q6⟩, q7, q8, q9⟩ := HZ.out hf0
            subst hf0 q1 q2 q3 q4 q5 q6 q7 q8 q9
            go_wp2_with (first | (at_make; refine Stop.un ?_) | (at_builtin; refine Stop.un ?_) | (with_reducible refine Stop.conv 40 9 ?_) | (with_reducible refine Stop.conv 9 40 ?_))
            go_ret
            exact ⟨rfl, BB⟩
          ·
            have hf1 : decide (0 < j) = true := by simp; omega
            go_wp2_with (first | (at_make; refine Stop.un ?_) | (at_builtin; refine Stop.un ?_) | (with_reducible refine Stop.conv 40 9 ?_) | (with_reducible refine Stop.conv 9 40 ?_))
            go_ret
            exact ⟨rfl, BB⟩
    have H3_89 : ∀ (wx : World) (zv : At wx w.heap.size #[.int .u8 k2, .int .i64 n2, .string s2] 24) (z7 : At wx g7 #[.int .u8 k, .int .i64 n, .string s, .int .u8 k', .int .i64 n', .string s', .int .i64 nu, .int .i64 ma] 26) (d1 : Cs wx ao (vcells x)) (BB : Below w.heap.size w wx) (HSZ : Hid (w3.heap.size ≤ wx.heap.size)) (g8 : Nat) (z8 : At wx g8 #[.bool false, .bool false, .bool false] 34) (h8 : w3.heap.size ≤ g8) (g9 : Nat) (z9 : At wx g9 #[.bool false, .bool false, .bool false] 34) (h9 : w3.heap.size ≤ g9) (e8_9 : g8 ≠ g9), W 4 #[true, true, true, true, true, true, true, true, true, true, false, false, false, false] wx ⟨#[.slice ao m cap, .agg #[.int .u8 k2, .int .i64 n2, .string s2], undef, .pointer (some ⟨w.heap.size, 0, none⟩), .bool false, .bool true, .slice ao f cap, .pointer (some ⟨g7, 0, none⟩), .pointer (some ⟨g8, 0, none⟩), .pointer (some ⟨g9, 0, none⟩), undef, undef, undef, undef, undef, .bool true, .pointer (some ⟨w.heap.size, 2, none⟩), .string s2, .int .i64 (s2.size : Int), .bool (decide (1100 < (s2.size : Int))), undef, .slice ao m cap, .slice ao f cap, .slice ao f cap, .agg #[.int .u8 k, .int .i64 n, .string s, .int .u8 k', .int .i64 n', .string s', .int .i64 nu, .int .i64 ma], .agg #[.int .u8 k, .int .i64 n, .string s, .int .u8 k', .int .i64 n', .string s', .int .i64 nu, .int .i64 ma], .agg #[.int .u8 k2, .int .i64 n2, .string s2], .agg #[.bool ea, .bool eb, .bool ec], .agg #[.int .u8 k, .int .i64 n, .string s, .int .u8 k', .int .i64 n', .string s', .int .i64 nu, .int .i64 ma], .agg #[.int .u8 k2, .int .i64 n2, .string s2], .agg #[.bool la, .bool lb, .bool lc], .agg #[.int .u8 k, .int .i64 n, .string s, .int .u8 k', .int .i64 n', .string s', .int .i64 nu, .int .i64 ma], .agg #[.bool na, .bool nb, .bool nc], undef, undef, undef, undef, undef, undef, undef, undef, undef, undef, undef, undef, undef, undef, undef, undef, undef, undef, undef, undef, undef, undef, undef, undef, undef, undef, undef, undef, undef, undef, undef, undef, undef, undef, undef, undef, undef, undef, undef, undef, undef, undef, undef, undef, undef, undef, undef, undef, undef, undef, undef, undef, undef, undef, undef, undef, undef, undef, undef, undef, undef, undef, undef, undef, undef, undef, undef, undef, undef, undef, undef, undef], []⟩ := by
      intro wx zv z7 d1 BB HSZ g8 z8 h8 g9 z9 h9 e8_9
      rw [hW]
      refine mix_each [10] (by decide) (by kernel_rfl) ?_
      intro i hi
      simp only [List.mem_cons, List.not_mem_nil, or_false] at hi
      subst hi
      ·
        refine ⟨_, rfl, rfl, ?_⟩
        go_wp2_with (first | (at_make; refine Stop.un ?_) | (at_builtin; refine Stop.un ?_) | (with_reducible refine Stop.conv 40 9 ?_) | (with_reducible refine Stop.conv 9 40 ?_))
        have bq := (Below.refl wx.heap.size wx).alloc (Nat.le_refl _) (.cells #[.bool false, .bool false, .bool false] 34)
        refine MixPost.mk (RX.ext bq (Hid.out HSZ)) ?_
        rw [← hW]
        exact H3_89a _ (zv.mono bq) (z7.mono bq) (d1.mono bq (Nat.le_refl _)) (BB.next bq) (Lib.hid (Nat.le_trans (Hid.out HSZ) (Below.size bq))) g8 (z8.mono bq) h8 g9 (z9.mono bq) h9 wx.heap.size (At.new wx #[.bool false, .bool false, .bool false] 34) (Hid.out HSZ) e8_9 (by have := z8.lt; omega) (by have := z9.lt; omega)
    have H3_8a : ∀ (wx : World) (zv : At wx w.heap.size #[.int .u8 k2, .int .i64 n2, .string s2] 24) (z7 : At wx g7 #[.int .u8 k, .int .i64 n, .string s, .int .u8 k', .int .i64 n', .string s', .int .i64 nu, .int .i64 ma] 26) (d1 : Cs wx ao (vcells x)) (BB : Below w.heap.size w wx) (HSZ : Hid (w3.heap.size ≤ wx.heap.size)) (g8 : Nat) (z8 : At wx g8 #[.bool false, .bool false, .bool false] 34) (h8 : w3.heap.size ≤ g8) (g10 : Nat) (z10 : At wx g10 #[.bool false, .bool false, .bool false] 34) (h10 : w3.heap.size ≤ g10) (e8_10 : g8 ≠ g10), W 4 #[true, true, true, true, true, true, true, true, true, false, true, false, false, false] wx ⟨#[.slice ao m cap, .agg #[.int .u8 k2, .int .i64 n2, .string s2], undef, .pointer (some ⟨w.heap.size, 0, none⟩), .bool false, .bool true, .slice ao f cap, .pointer (some ⟨g7, 0, none⟩), .pointer (some ⟨g8, 0, none⟩), undef, .pointer (some ⟨g10, 0, none⟩), undef, undef, undef, undef, .bool true, .pointer (some ⟨w.heap.size, 2, none⟩), .string s2, .int .i64 (s2.size : Int), .bool (decide (1100 < (s2.size : Int))), undef, .slice ao m cap, .slice ao f cap, .slice ao f cap, .agg #[.int .u8 k, .int .i64 n, .string s, .int .u8 k', .int .i64 n', .string s', .int .i64 nu, .int .i64 ma], .agg #[.int .u8 k, .int .i64 n, .string s, .int .u8 k', .int .i64 n', .string s', .int .i64 nu, .int .i64 ma], .agg #[.int .u8 k2, .int .i64 n2, .string s2], .agg #[.bool ea, .bool eb, .bool ec], .agg #[.int .u8 k, .int .i64 n, .string s, .int .u8 k', .int .i64 n', .string s', .int .i64 nu, .int .i64 ma], .agg #[.int .u8 k2, .int .i64 n2, .string s2], .agg #[.bool la, .bool lb, .bool lc], .agg #[.int .u8 k, .int .i64 n, .string s, .int .u8 k', .int .i64 n', .string s', .int .i64 nu, .int .i64 ma], .agg #[.bool na, .bool nb, .bool nc], undef, undef, undef, undef, undef, undef, undef, undef, undef, undef, undef, undef, undef, undef, undef, undef, undef, undef, undef, undef, undef, undef, undef, undef, undef, undef, undef, undef, undef, undef, undef, undef, undef, undef, undef, undef, undef, undef, undef, undef, undef, undef, undef, undef, undef, undef, undef, undef, undef, undef, undef, undef, undef, undef, undef, undef, undef, undef, undef, undef, undef, undef, undef, undef, undef, undef, undef, undef, undef, undef, undef, undef], []⟩ := by
      intro wx zv z7 d1 BB HSZ g8 z8 h8 g10 z10 h10 e8_10
      rw [hW]
      refine mix_each [9] (by decide) (by kernel_rfl) ?_
      intro i hi
      simp only [List.mem_cons, List.not_mem_nil, or_false] at hi
      subst hi
      ·
        refine ⟨_, rfl, rfl, ?_⟩
        go_wp2_with (first | (at_make; refine Stop.un ?_) | (at_builtin; refine Stop.un ?_) | (with_reducible refine Stop.conv 40 9 ?_) | (with_reducible refine Stop.conv 9 40 ?_))
        have bq := (Below.refl wx.heap.size wx).alloc (Nat.le_refl _) (.cells #[.bool false, .bool false, .bool false] 34)
        refine MixPost.mk (RX.ext bq (Hid.out HSZ)) ?_
        rw [← hW]
        exact H3_89a _ (zv.mono bq) (z7.mono bq) (d1.mono bq (Nat.le_refl _)) (BB.next bq) (Lib.hid (Nat.le_trans (Hid.out HSZ) (Below.size bq))) g8 (z8.mono bq) h8 wx.heap.size (At.new wx #[.bool false, .bool false, .bool false] 34) (Hid.out HSZ) g10 (z10.mono bq) h10 (by have := z8.lt; omega) e8_10 (by have := z10.lt; omega)
    have H3_9a : ∀ (wx : World) (zv : At wx w.heap.size #[.int .u8 k2, .int .i64 n2, .string s2] 24) (z7 : At wx g7 #[.int .u8 k, .int .i64 n, .string s, .int .u8 k', .int .i64 n', .string s', .int .i64 nu, .int .i64 ma] 26) (d1 : Cs wx ao (vcells x)) (BB : Below w.heap.size w wx) (HSZ : Hid (w3.heap.size ≤ wx.heap.size)) (g9 : Nat) (z9 : At wx g9 #[.bool false, .bool false, .bool false] 34) (h9 : w3.heap.size ≤ g9) (g10 : Nat) (z10 : At wx g10 #[.bool false, .bool false, .bool false] 34) (h10 : w3.heap.size ≤ g10) (e9_10 : g9 ≠ g10), W 4 #[true, true, true, true, true, true, true, true, false, true, true, false, false, false] wx ⟨#[.slice ao m cap, .agg #[.int .u8 k2, .int .i64 n2, .string s2], undef, .pointer (some ⟨w.heap.size, 0, none⟩), .bool false, .bool true, .slice ao f cap, .pointer (some ⟨g7, 0, none⟩), undef, .pointer (some ⟨g9, 0, none⟩), .pointer (some ⟨g10, 0, none⟩), undef, undef, undef, undef, .bool true, .pointer (some ⟨w.heap.size, 2, none⟩), .string s2, .int .i64 (s2.size : Int), .bool (decide (1100 < (s2.size : Int))), undef, .slice ao m cap, .slice ao f cap, .slice ao f cap, .agg #[.int .u8 k, .int .i64 n, .string s, .int .u8 k', .int .i64 n', .string s', .int .i64 nu, .int .i64 ma], .agg #[.int .u8 k, .int .i64 n, .string s, .int .u8 k', .int .i64 n', .string s', .int .i64 nu, .int .i64 ma], .agg #[.int .u8 k2, .int .i64 n2, .string s2], .agg #[.bool ea, .bool eb, .bool ec], .agg #[.int .u8 k, .int .i64 n, .string s, .int .u8 k', .int .i64 n', .string s', .int .i64 nu, .int .i64 ma], .agg #[.int .u8 k2, .int .i64 n2, .string s2], .agg #[.bool la, .bool lb, .bool lc], .agg #[.int .u8 k, .int .i64 n, .string s, .int .u8 k', .int .i64 n', .string s', .int .i64 nu, .int .i64 ma], .agg #[.bool na, .bool nb, .bool nc], undef, undef, undef, undef, undef, undef, undef, undef, undef, undef, undef, undef, undef, undef, undef, undef, undef, undef, undef, undef, undef, undef, undef, undef, undef, undef, undef, undef, undef, undef, undef, undef, undef, undef, undef, undef, undef, undef, undef, undef, undef, undef, undef, undef, undef, undef, undef, undef, undef, undef, undef, undef, undef, undef, undef, undef, undef, undef, undef, undef, undef, undef, undef, undef, undef, undef, undef, undef, undef, undef, undef, undef], []⟩ := by
      intro wx zv z7 d1 BB HSZ g9 z9 h9 g10 z10 h10 e9_10
      rw [hW]
      refine mix_each [8] (by decide) (by kernel_rfl) ?_
      intro i hi
      simp only [List.mem_cons, List.not_mem_nil, or_false] at hi
      subst hi
      ·
        refine ⟨_, rfl, rfl, ?_⟩
        go_wp2_with (first | (at_make; refine Stop.un ?_) | (at_builtin; refine Stop.un ?_) | (with_reducible refine Stop.conv 40 9 ?_) | (with_reducible refine Stop.conv 9 40 ?_))
        have bq := (Below.refl wx.heap.size wx).alloc (Nat.le_refl _) (.cells #[.bool false, .bool false, .bool false] 34)
        refine MixPost.mk (RX.ext bq (Hid.out HSZ)) ?_
        rw [← hW]
        exact H3_89a _ (zv.mono bq) (z7.mono bq) (d1.mono bq (Nat.le_refl _)) (BB.next bq) (Lib.hid (Nat.le_trans (Hid.out HSZ) (Below.size bq))) wx.heap.size (At.new wx #[.bool false, .bool false, .bool false] 34) (Hid.out HSZ) g9 (z9.mono bq) h9 g10 (z10.mono bq) h10 (by have := z9.lt; omega) (by have := z10.lt; omega) e9_10
    have H3_8 : ∀ (wx : World) (zv : At wx w.heap.size #[.int .u8 k2, .int .i64 n2, .string s2] 24) (z7 : At wx g7 #[.int .u8 k, .int .i64 n, .string s, .int .u8 k', .int .i64 n', .string s', .int .i64 nu, .int .i64 ma] 26) (d1 : Cs wx ao (vcells x)) (BB : Below w.heap.size w wx) (HSZ : Hid (w3.heap.size ≤ wx.heap.size)) (g8 : Nat) (z8 : At wx g8 #[.bool false, .bool false, .bool false] 34) (h8 : w3.heap.size ≤ g8), W 5 #[true, true, true, true, true, true, true, true, true, false, false, false, false, false] wx ⟨#[.slice ao m cap, .agg #[.int .u8 k2, .int .i64 n2, .string s2], undef, .pointer (some ⟨w.heap.size, 0, none⟩), .bool false, .bool true, .slice ao f cap, .pointer (some ⟨g7, 0, none⟩), .pointer (some ⟨g8, 0, none⟩), undef, undef, undef, undef, undef, undef, .bool true, .pointer (some ⟨w.heap.size, 2, none⟩), .string s2, .int .i64 (s2.size : Int), .bool (decide (1100 < (s2.size : Int))), undef, .slice ao m cap, .slice ao f cap, .slice ao f cap, .agg #[.int .u8 k, .int .i64 n, .string s, .int .u8 k', .int .i64 n', .string s', .int .i64 nu, .int .i64 ma], .agg #[.int .u8 k, .int .i64 n, .string s, .int .u8 k', .int .i64 n', .string s', .int .i64 nu, .int .i64 ma], .agg #[.int .u8 k2, .int .i64 n2, .string s2], .agg #[.bool ea, .bool eb, .bool ec], .agg #[.int .u8 k, .int .i64 n, .string s, .int .u8 k', .int .i64 n', .string s', .int .i64 nu, .int .i64 ma], .agg #[.int .u8 k2, .int .i64 n2, .string s2], .agg #[.bool la, .bool lb, .bool lc], .agg #[.int .u8 k, .int .i64 n, .string s, .int .u8 k', .int .i64 n', .string s', .int .i64 nu, .int .i64 ma], .agg #[.bool na, .bool nb, .bool nc], undef, undef, undef, undef, undef, undef, undef, undef, undef, undef, undef, undef, undef, undef, undef, undef, undef, undef, undef, undef, undef, undef, undef, undef, undef, undef, undef, undef, undef, undef, undef, undef, undef, undef, undef, undef, undef, undef, undef, undef, undef, undef, undef, undef, undef, undef, undef, undef, undef, undef, undef, undef, undef, undef, undef, undef, undef, undef, undef, undef, undef, undef, undef, undef, undef, undef, undef, undef, undef, undef, undef, undef], []⟩ := by
      intro wx zv z7 d1 BB HSZ g8 z8 h8
      rw [hW]
      refine mix_each [9, 10] (by decide) (by kernel_rfl) ?_
      intro i hi
      simp only [List.mem_cons, List.not_mem_nil, or_false] at hi
      rcases hi with rfl | rfl
      ·
        refine ⟨_, rfl, rfl, ?_⟩
        go_wp2_with (first | (at_make; refine Stop.un ?_) | (at_builtin; refine Stop.un ?_) | (with_reducible refine Stop.conv 40 9 ?_) | (with_reducible refine Stop.conv 9 40 ?_))
        have bq := (Below.refl wx.heap.size wx).alloc (Nat.le_refl _) (.cells #[.bool false, .bool false, .bool false] 34)
        refine MixPost.mk (RX.ext bq (Hid.out HSZ)) ?_
        rw [← hW]
        exact H3_89 _ (zv.mono bq) (z7.mono bq) (d1.mono bq (Nat.le_refl _)) (BB.next bq) (Lib.hid (Nat.le_trans (Hid.out HSZ) (Below.size bq))) g8 (z8.mono bq) h8 wx.heap.size (At.new wx #[.bool false, .bool false, .bool false] 34) (Hid.out HSZ) (by have := z8.lt; omega)
      ·
        refine ⟨_, rfl, rfl, ?_⟩
        go_wp2_with (first | (at_make; refine Stop.un ?_) | (at_builtin; refine Stop.un ?_) | (with_reducible refine Stop.conv 40 9 ?_) | (with_reducible refine Stop.conv 9 40 ?_))
        have bq := (Below.refl wx.heap.size wx).alloc (Nat.le_refl _) (.cells #[.bool false, .bool false, .bool false] 34)
        refine MixPost.mk (RX.ext bq (Hid.out HSZ)) ?_
        rw [← hW]
        exact H3_8a _ (zv.mono bq) (z7.mono bq) (d1.mono bq (Nat.le_refl _)) (BB.next bq) (Lib.hid (Nat.le_trans (Hid.out HSZ) (Below.size bq))) g8 (z8.mono bq) h8 wx.heap.size (At.new wx #[.bool false, .bool false, .bool false] 34) (Hid.out HSZ) (by have := z8.lt; omega)
    have H3_9 : ∀ (wx : World) (zv : At wx w.heap.size #[.int .u8 k2, .int .i64 n2, .string s2] 24) (z7 : At wx g7 #[.int .u8 k, .int .i64 n, .string s, .int .u8 k', .int .i64 n', .string s', .int .i64 nu, .int .i64 ma] 26) (d1 : Cs wx ao (vcells x)) (BB : Below w.heap.size w wx) (HSZ : Hid (w3.heap.size ≤ wx.heap.size)) (g9 : Nat) (z9 : At wx g9 #[.bool false, .bool false, .bool false] 34) (h9 : w3.heap.size ≤ g9), W 5 #[true, true, true, true, true, true, true, true, false, true, false, false, false, false] wx ⟨#[.slice ao m cap, .agg #[.int .u8 k2, .int .i64 n2, .string s2], undef, .pointer (some ⟨w.heap.size, 0, none⟩), .bool false, .bool true, .slice ao f cap, .pointer (some ⟨g7, 0, none⟩), undef, .pointer (some ⟨g9, 0, none⟩), undef, undef, undef, undef, undef, .bool true, .pointer (some ⟨w.heap.size, 2, none⟩), .string s2, .int .i64 (s2.size : Int), .bool (decide (1100 < (s2.size : Int))), undef, .slice ao m cap, .slice ao f cap, .slice ao f cap, .agg #[.int .u8 k, .int .i64 n, .string s, .int .u8 k', .int .i64 n', .string s', .int .i64 nu, .int .i64 ma], .agg #[.int .u8 k, .int .i64 n, .string s, .int .u8 k', .int .i64 n', .string s', .int .i64 nu, .int .i64 ma], .agg #[.int .u8 k2, .int .i64 n2, .string s2], .agg #[.bool ea, .bool eb, .bool ec], .agg #[.int .u8 k, .int .i64 n, .string s, .int .u8 k', .int .i64 n', .string s', .int .i64 nu, .int .i64 ma], .agg #[.int .u8 k2, .int .i64 n2, .string s2], .agg #[.bool la, .bool lb, .bool lc], .agg #[.int .u8 k, .int .i64 n, .string s, .int .u8 k', .int .i64 n', .string s', .int .i64 nu, .int .i64 ma], .agg #[.bool na, .bool nb, .bool nc], undef, undef, undef, undef, undef, undef, undef, undef, undef, undef, undef, undef, undef, undef, undef, undef, undef, undef, undef, undef, undef, undef, undef, undef, undef, undef, undef, undef, undef, undef, undef, undef, undef, undef, undef, undef, undef, undef, undef, undef, undef, undef, undef, undef, undef, undef, undef, undef, undef, undef, undef, undef, undef, undef, undef, undef, undef, undef, undef, undef, undef, undef, undef, undef, undef, undef, undef, undef, undef, undef, undef, undef], []⟩ := by
      intro wx zv z7 d1 BB HSZ g9 z9 h9
      rw [hW]
      refine mix_each [8, 10] (by decide) (by kernel_rfl) ?_
      intro i hi
      simp only [List.mem_cons, List.not_mem_nil, or_false] at hi
      rcases hi with rfl | rfl
      ·
        refine ⟨_, rfl, rfl, ?_⟩
        go_wp2_with (first | (at_make; refine Stop.un ?_) | (at_builtin; refine Stop.un ?_) | (with_reducible refine Stop.conv 40 9 ?_) | (with_reducible refine Stop.conv 9 40 ?_))
        have bq := (Below.refl wx.heap.size wx).alloc (Nat.le_refl _) (.cells #[.bool false, .bool false, .bool false] 34)
        refine MixPost.mk (RX.ext bq (Hid.out HSZ)) ?_
        rw [← hW]
        exact H3_89 _ (zv.mono bq) (z7.mono bq) (d1.mono bq (Nat.le_refl _)) (BB.next bq) (Lib.hid (Nat.le_trans (Hid.out HSZ) (Below.size bq))) wx.heap.size (At.new wx #[.bool false, .bool false, .bool false] 34) (Hid.out HSZ) g9 (z9.mono bq) h9 (by have := z9.lt; omega)
      ·
        refine ⟨_, rfl, rfl, ?_⟩
        go_wp2_with (first | (at_make; refine Stop.un ?_) | (at_builtin; refine Stop.un ?_) | (with_reducible refine Stop.conv 40 9 ?_) | (with_reducible refine Stop.conv 9 40 ?_))
        have bq := (Below.refl wx.heap.size wx).alloc (Nat.le_refl _) (.cells #[.bool false, .bool false, .bool false] 34)
        refine MixPost.mk (RX.ext bq (Hid.out HSZ)) ?_
        rw [← hW]
        exact H3_9a _ (zv.mono bq) (z7.mono bq) (d1.mono bq (Nat.le_refl _)) (BB.next bq) (Lib.hid (Nat.le_trans (Hid.out HSZ) (Below.size bq))) g9 (z9.mono bq) h9 wx.heap.size (At.new wx #[.bool false, .bool false, .bool false] 34) (Hid.out HSZ) (by have := z9.lt; omega)
    have H3_a : ∀ (wx : World) (zv : At wx w.heap.size #[.int .u8 k2, .int .i64 n2, .string s2] 24) (z7 : At wx g7 #[.int .u8 k, .int .i64 n, .string s, .int .u8 k', .int .i64 n', .string s', .int .i64 nu, .int .i64 ma] 26) (d1 : Cs wx ao (vcells x)) (BB : Below w.heap.size w wx) (HSZ : Hid (w3.heap.size ≤ wx.heap.size)) (g10 : Nat) (z10 : At wx g10 #[.bool false, .bool false, .bool false] 34) (h10 : w3.heap.size ≤ g10), W 5 #[true, true, true, true, true, true, true, true, false, false, true, false, false, false] wx ⟨#[.slice ao m cap, .agg #[.int .u8 k2, .int .i64 n2, .string s2], undef, .pointer (some ⟨w.heap.size, 0, none⟩), .bool false, .bool true, .slice ao f cap, .pointer (some ⟨g7, 0, none⟩), undef, undef, .pointer (some ⟨g10, 0, none⟩), undef, undef, undef, undef, .bool true, .pointer (some ⟨w.heap.size, 2, none⟩), .string s2, .int .i64 (s2.size : Int), .bool (decide (1100 < (s2.size : Int))), undef, .slice ao m cap, .slice ao f cap, .slice ao f cap, .agg #[.int .u8 k, .int .i64 n, .string s, .int .u8 k', .int .i64 n', .string s', .int .i64 nu, .int .i64 ma], .agg #[.int .u8 k, .int .i64 n, .string s, .int .u8 k', .int .i64 n', .string s', .int .i64 nu, .int .i64 ma], .agg #[.int .u8 k2, .int .i64 n2, .string s2], .agg #[.bool ea, .bool eb, .bool ec], .agg #[.int .u8 k, .int .i64 n, .string s, .int .u8 k', .int .i64 n', .string s', .int .i64 nu, .int .i64 ma], .agg #[.int .u8 k2, .int .i64 n2, .string s2], .agg #[.bool la, .bool lb, .bool lc], .agg #[.int .u8 k, .int .i64 n, .string s, .int .u8 k', .int .i64 n', .string s', .int .i64 nu, .int .i64 ma], .agg #[.bool na, .bool nb, .bool nc], undef, undef, undef, undef, undef, undef, undef, undef, undef, undef, undef, undef, undef, undef, undef, undef, undef, undef, undef, undef, undef, undef, undef, undef, undef, undef, undef, undef, undef, undef, undef, undef, undef, undef, undef, undef, undef, undef, undef, undef, undef, undef, undef, undef, undef, undef, undef, undef, undef, undef, undef, undef, undef, undef, undef, undef, undef, undef, undef, undef, undef, undef, undef, undef, undef, undef, undef, undef, undef, undef, undef, undef], []⟩ := by
      intro wx zv z7 d1 BB HSZ g10 z10 h10
      rw [hW]
      refine mix_each [8, 9] (by decide) (by kernel_rfl) ?_
      intro i hi
      simp only [List.mem_cons, List.not_mem_nil, or_false] at hi
      rcases hi with rfl | rfl
      ·
        refine ⟨_, rfl, rfl, ?_⟩
        go_wp2_with (first | (at_make; refine Stop.un ?_) | (at_builtin; refine Stop.un ?_) | (with_reducible refine Stop.conv 40 9 ?_) | (with_reducible refine Stop.conv 9 40 ?_))
        have bq := (Below.refl wx.heap.size wx).alloc (Nat.le_refl _) (.cells #[.bool false, .bool false, .bool false] 34)
        refine MixPost.mk (RX.ext bq (Hid.out HSZ)) ?_
        rw [← hW]
        exact H3_8a _ (zv.mono bq) (z7.mono bq) (d1.mono bq (Nat.le_refl _)) (BB.next bq) (Lib.hid (Nat.le_trans (Hid.out HSZ) (Below.size bq))) wx.heap.size (At.new wx #[.bool false, .bool false, .bool false] 34) (Hid.out HSZ) g10 (z10.mono bq) h10 (by have := z10.lt; omega)
      ·
        refine ⟨_, rfl, rfl, ?_⟩
        go_wp2_with (first | (at_make; refine Stop.un ?_) | (at_builtin; refine Stop.un ?_) | (with_reducible refine Stop.conv 40 9 ?_) | (with_reducible refine Stop.conv 9 40 ?_))
        have bq := (Below.refl wx.heap.size wx).alloc (Nat.le_refl _) (.cells #[.bool false, .bool false, .bool false] 34)
        refine MixPost.mk (RX.ext bq (Hid.out HSZ)) ?_
        rw [← hW]
        exact H3_9a _ (zv.mono bq) (z7.mono bq) (d1.mono bq (Nat.le_refl _)) (BB.next bq) (Lib.hid (Nat.le_trans (Hid.out HSZ) (Below.size bq))) wx.heap.size (At.new wx #[.bool false, .bool false, .bool false] 34) (Hid.out HSZ) g10 (z10.mono bq) h10 (by have := z10.lt; omega)
    have H3_ : ∀ (wx : World) (zv : At wx w.heap.size #[.int .u8 k2, .int .i64 n2, .string s2] 24) (z7 : At wx g7 #[.int .u8 k, .int .i64 n, .string s, .int .u8 k', .int .i64 n', .string s', .int .i64 nu, .int .i64 ma] 26) (d1 : Cs wx ao (vcells x)) (BB : Below w.heap.size w wx) (HSZ : Hid (w3.heap.size ≤ wx.heap.size)), W 6 #[true, true, true, true, true, true, true, true, false, false, false, false, false, false] wx ⟨#[.slice ao m cap, .agg #[.int .u8 k2, .int .i64 n2, .string s2], undef, .pointer (some ⟨w.heap.size, 0, none⟩), .bool false, .bool true, .slice ao f cap, .pointer (some ⟨g7, 0, none⟩), undef, undef, undef, undef, undef, undef, undef, .bool true, .pointer (some ⟨w.heap.size, 2, none⟩), .string s2, .int .i64 (s2.size : Int), .bool (decide (1100 < (s2.size : Int))), undef, .slice ao m cap, .slice ao f cap, .slice ao f cap, .agg #[.int .u8 k, .int .i64 n, .string s, .int .u8 k', .int .i64 n', .string s', .int .i64 nu, .int .i64 ma], .agg #[.int .u8 k, .int .i64 n, .string s, .int .u8 k', .int .i64 n', .string s', .int .i64 nu, .int .i64 ma], .agg #[.int .u8 k2, .int .i64 n2, .string s2], .agg #[.bool ea, .bool eb, .bool ec], .agg #[.int .u8 k, .int .i64 n, .string s, .int .u8 k', .int .i64 n', .string s', .int .i64 nu, .int .i64 ma], .agg #[.int .u8 k2, .int .i64 n2, .string s2], .agg #[.bool la, .bool lb, .bool lc], .agg #[.int .u8 k, .int .i64 n, .string s, .int .u8 k', .int .i64 n', .string s', .int .i64 nu, .int .i64 ma], .agg #[.bool na, .bool nb, .bool nc], undef, undef, undef, undef, undef, undef, undef, undef, undef, undef, undef, undef, undef, undef, undef, undef, undef, undef, undef, undef, undef, undef, undef, undef, undef, undef, undef, undef, undef, undef, undef, undef, undef, undef, undef, undef, undef, undef, undef, undef, undef, undef, undef, undef, undef, undef, undef, undef, undef, undef, undef, undef, undef, undef, undef, undef, undef, undef, undef, undef, undef, undef, undef, undef, undef, undef, undef, undef, undef, undef, undef, undef], []⟩ := by
      intro wx zv z7 d1 BB HSZ
      rw [hW]
      refine mix_each [8, 9, 10] (by decide) (by kernel_rfl) ?_
      intro i hi
      simp only [List.mem_cons, List.not_mem_nil, or_false] at hi
      rcases hi with rfl | rfl | rfl
      ·
        refine ⟨_, rfl, rfl, ?_⟩
        go_wp2_with (first | (at_make; refine Stop.un ?_) | (at_builtin; refine Stop.un ?_) | (with_reducible refine Stop.conv 40 9 ?_) | (with_reducible refine Stop.conv 9 40 ?_))
        have bq := (Below.refl wx.heap.size wx).alloc (Nat.le_refl _) (.cells #[.bool false, .bool false, .bool false] 34)
        refine MixPost.mk (RX.ext bq (Hid.out HSZ)) ?_
        rw [← hW]
        exact H3_8 _ (zv.mono bq) (z7.mono bq) (d1.mono bq (Nat.le_refl _)) (BB.next bq) (Lib.hid (Nat.le_trans (Hid.out HSZ) (Below.size bq))) wx.heap.size (At.new wx #[.bool false, .bool false, .bool false] 34) (Hid.out HSZ)
      ·
        refine ⟨_, rfl, rfl, ?_⟩
        go_wp2_with (first | (at_make; refine Stop.un ?_) | (at_builtin; refine Stop.un ?_) | (with_reducible refine Stop.conv 40 9 ?_) | (with_reducible refine Stop.conv 9 40 ?_))
        have bq := (Below.refl wx.heap.size wx).alloc (Nat.le_refl _) (.cells #[.bool false, .bool false, .bool false] 34)
        refine MixPost.mk (RX.ext bq (Hid.out HSZ)) ?_
        rw [← hW]
        exact H3_9 _ (zv.mono bq) (z7.mono bq) (d1.mono bq (Nat.le_refl _)) (BB.next bq) (Lib.hid (Nat.le_trans (Hid.out HSZ) (Below.size bq))) wx.heap.size (At.new wx #[.bool false, .bool false, .bool false] 34) (Hid.out HSZ)
      ·
        refine ⟨_, rfl, rfl, ?_⟩
        go_wp2_with (first | (at_make; refine Stop.un ?_) | (at_builtin; refine Stop.un ?_) | (with_reducible refine Stop.conv 40 9 ?_) | (with_reducible refine Stop.conv 9 40 ?_))
        have bq := (Below.refl wx.heap.size wx).alloc (Nat.le_refl _) (.cells #[.bool false, .bool false, .bool false] 34)
        refine MixPost.mk (RX.ext bq (Hid.out HSZ)) ?_
        rw [← hW]
        exact H3_a _ (zv.mono bq) (z7.mono bq) (d1.mono bq (Nat.le_refl _)) (BB.next bq) (Lib.hid (Nat.le_trans (Hid.out HSZ) (Below.size bq))) wx.heap.size (At.new wx #[.bool false, .bool false, .bool false] 34) (Hid.out HSZ)
    have H2_89a : ∀ (wx : World) (zv : At wx w.heap.size #[.int .u8 k2, .int .i64 n2, .string s2] 24) (z7 : At wx g7 #[.int .u8 k, .int .i64 n, .string s, .int .u8 k', .int .i64 n', .string s', .int .i64 nu, .int .i64 ma] 26) (d1 : Cs wx ao (vcells x)) (BB : Below w.heap.size w wx) (HSZ : Hid (w3.heap.size ≤ wx.heap.size)) (g8 : Nat) (z8 : At wx g8 #[.bool false, .bool false, .bool false] 34) (h8 : w3.heap.size ≤ g8) (g9 : Nat) (z9 : At wx g9 #[.bool false, .bool false, .bool false] 34) (h9 : w3.heap.size ≤ g9) (g10 : Nat) (z10 : At wx g10 #[.bool false, .bool false, .bool false] 34) (h10 : w3.heap.size ≤ g10) (e8_9 : g8 ≠ g9) (e8_10 : g8 ≠ g10) (e9_10 : g9 ≠ g10), W 4 #[true, true, true, true, true, true, true, false, true, true, true, false, false, false] wx ⟨#[.slice ao m cap, .agg #[.int .u8 k2, .int .i64 n2, .string s2], undef, .pointer (some ⟨w.heap.size, 0, none⟩), .bool false, .bool true, .slice ao f cap, .pointer (some ⟨g7, 0, none⟩), .pointer (some ⟨g8, 0, none⟩), .pointer (some ⟨g9, 0, none⟩), .pointer (some ⟨g10, 0, none⟩), undef, undef, undef, undef, .bool true, .pointer (some ⟨w.heap.size, 2, none⟩), .string s2, .int .i64 (s2.size : Int), .bool (decide (1100 < (s2.size : Int))), undef, .slice ao m cap, .slice ao f cap, .slice ao f cap, .agg #[.int .u8 k, .int .i64 n, .string s, .int .u8 k', .int .i64 n', .string s', .int .i64 nu, .int .i64 ma], .agg #[.int .u8 k, .int .i64 n, .string s, .int .u8 k', .int .i64 n', .string s', .int .i64 nu, .int .i64 ma], .agg #[.int .u8 k2, .int .i64 n2, .string s2], .agg #[.bool ea, .bool eb, .bool ec], .agg #[.int .u8 k, .int .i64 n, .string s, .int .u8 k', .int .i64 n', .string s', .int .i64 nu, .int .i64 ma], .agg #[.int .u8 k2, .int .i64 n2, .string s2], .agg #[.bool la, .bool lb, .bool lc], .agg #[.int .u8 k, .int .i64 n, .string s, .int .u8 k', .int .i64 n', .string s', .int .i64 nu, .int .i64 ma], undef, undef, undef, undef, undef, undef, undef, undef, undef, undef, undef, undef, undef, undef, undef, undef, undef, undef, undef, undef, undef, undef, undef, undef, undef, undef, undef, undef, undef, undef, undef, undef, undef, undef, undef, undef, undef, undef, undef, undef, undef, undef, undef, undef, undef, undef, undef, undef, undef, undef, undef, undef, undef, undef, undef, undef, undef, undef, undef, undef, undef, undef, undef, undef, undef, undef, undef, undef, undef, undef, undef, undef, undef], []⟩ := by
      intro wx zv z7 d1 BB HSZ g8 z8 h8 g9 z9 h9 g10 z10 h10 e8_9 e8_10 e9_10
      rw [hW]
      refine mix_each [7] (by decide) (by kernel_rfl) ?_
      intro i hi
      simp only [List.mem_cons, List.not_mem_nil, or_false] at hi
      subst hi
      ·
        refine ⟨_, rfl, rfl, ?_⟩
        go_wp2_with (first | (at_make; refine Stop.un ?_) | (at_builtin; refine Stop.un ?_) | (with_reducible refine Stop.conv 40 9 ?_) | (with_reducible refine Stop.conv 9 40 ?_))
        refine (HNU.out _).mono ?_
        rintro e wq ⟨rfl, bq⟩
        go_wp2_with (first | (at_make; refine Stop.un ?_) | (at_builtin; refine Stop.un ?_) | (with_reducible refine Stop.conv 40 9 ?_) | (with_reducible refine Stop.conv 9 40 ?_))
        refine MixPost.mk (RX.ext bq (Hid.out HSZ)) ?_
        rw [← hW]
        exact H3_89a wq (zv.mono bq) (z7.mono bq) (d1.mono bq (Nat.le_refl _)) (BB.next bq) (Lib.hid (Nat.le_trans (Hid.out HSZ) (Below.size bq))) g8 (z8.mono bq) h8 g9 (z9.mono bq) h9 g10 (z10.mono bq) h10 e8_9 e8_10 e9_10
    have H2_89 : ∀ (wx : World) (zv : At wx w.heap.size #[.int .u8 k2, .int .i64 n2, .string s2] 24) (z7 : At wx g7 #[.int .u8 k, .int .i64 n, .string s, .int .u8 k', .int .i64 n', .string s', .int .i64 nu, .int .i64 ma] 26) (d1 : Cs wx ao (vcells x)) (BB : Below w.heap.size w wx) (HSZ : Hid (w3.heap.size ≤ wx.heap.size)) (g8 : Nat) (z8 : At wx g8 #[.bool false, .bool false, .bool false] 34) (h8 : w3.heap.size ≤ g8) (g9 : Nat) (z9 : At wx g9 #[.bool false, .bool false, .bool false] 34) (h9 : w3.heap.size ≤ g9) (e8_9 : g8 ≠ g9), W 5 #[true, true, true, true, true, true, true, false, true, true, false, false, false, false] wx ⟨#[.slice ao m cap, .agg #[.int .u8 k2, .int .i64 n2, .string s2], undef, .pointer (some ⟨w.heap.size, 0, none⟩), .bool false, .bool true, .slice ao f cap, .pointer (some ⟨g7, 0, none⟩), .pointer (some ⟨g8, 0, none⟩), .pointer (some ⟨g9, 0, none⟩), undef, undef, undef, undef, undef, .bool true, .pointer (some ⟨w.heap.size, 2, none⟩), .string s2, .int .i64 (s2.size : Int), .bool (decide (1100 < (s2.size : Int))), undef, .slice ao m cap, .slice ao f cap, .slice ao f cap, .agg #[.int .u8 k, .int .i64 n, .string s, .int .u8 k', .int .i64 n', .string s', .int .i64 nu, .int .i64 ma], .agg #[.int .u8 k, .int .i64 n, .string s, .int .u8 k', .int .i64 n', .string s', .int .i64 nu, .int .i64 ma], .agg #[.int .u8 k2, .int .i64 n2, .string s2], .agg #[.bool ea, .bool eb, .bool ec], .agg #[.int .u8 k, .int .i64 n, .string s, .int .u8 k', .int .i64 n', .string s', .int .i64 nu, .int .i64 ma], .agg #[.int .u8 k2, .int .i64 n2, .string s2], .agg #[.bool la, .bool lb, .bool lc], .agg #[.int .u8 k, .int .i64 n, .string s, .int .u8 k', .int .i64 n', .string s', .int .i64 nu, .int .i64 ma], undef, undef, undef, undef, undef, undef, undef, undef, undef, undef, undef, undef, undef, undef, undef, undef, undef, undef, undef, undef, undef, undef, undef, undef, undef, undef, undef, undef, undef, undef, undef, undef, undef, undef, undef, undef, undef, undef, undef, undef, undef, undef, undef, undef, undef, undef, undef, undef, undef, undef, undef, undef, undef, undef, undef, undef, undef, undef, undef, undef, undef, undef, undef, undef, undef, undef, undef, undef, undef, undef, undef, undef, undef], []⟩ := by
      intro wx zv z7 d1 BB HSZ g8 z8 h8 g9 z9 h9 e8_9
      rw [hW]
      refine mix_each [7, 10] (by decide) (by kernel_rfl) ?_
      intro i hi
      simp only [List.mem_cons, List.not_mem_nil, or_false] at hi
      rcases hi with rfl | rfl
      ·
        refine ⟨_, rfl, rfl, ?_⟩
        go_wp2_with (first | (at_make; refine Stop.un ?_) | (at_builtin; refine Stop.un ?_) | (with_reducible refine Stop.conv 40 9 ?_) | (with_reducible refine Stop.conv 9 40 ?_))
        refine (HNU.out _).mono ?_
        rintro e wq ⟨rfl, bq⟩
        go_wp2_with (first | (at_make; refine Stop.un ?_) | (at_builtin; refine Stop.un ?_) | (with_reducible refine Stop.conv 40 9 ?_) | (with_reducible refine Stop.conv 9 40 ?_))
        refine MixPost.mk (RX.ext bq (Hid.out HSZ)) ?_
        rw [← hW]
        exact H3_89 wq (zv.mono bq) (z7.mono bq) (d1.mono bq (Nat.le_refl _)) (BB.next bq) (Lib.hid (Nat.le_trans (Hid.out HSZ) (Below.size bq))) g8 (z8.mono bq) h8 g9 (z9.mono bq) h9 e8_9
      ·
        refine ⟨_, rfl, rfl, ?_⟩
        go_wp2_with (first | (at_make; refine Stop.un ?_) | (at_builtin; refine Stop.un ?_) | (with_reducible refine Stop.conv 40 9 ?_) | (with_reducible refine Stop.conv 9 40 ?_))
        have bq := (Below.refl wx.heap.size wx).alloc (Nat.le_refl _) (.cells #[.bool false, .bool false, .bool false] 34)
        refine MixPost.mk (RX.ext bq (Hid.out HSZ)) ?_
        rw [← hW]
        exact H2_89a _ (zv.mono bq) (z7.mono bq) (d1.mono bq (Nat.le_refl _)) (BB.next bq) (Lib.hid (Nat.le_trans (Hid.out HSZ) (Below.size bq))) g8 (z8.mono bq) h8 g9 (z9.mono bq) h9 wx.heap.size (At.new wx #[.bool false, .bool false, .bool false] 34) (Hid.out HSZ) e8_9 (by have := z8.lt; omega) (by have := z9.lt; omega)
    have H2_8a : ∀ (wx : World) (zv : At wx w.heap.size #[.int .u8 k2, .int .i64 n2, .string s2] 24) (z7 : At wx g7 #[.int .u8 k, .int .i64 n, .string s, .int .u8 k', .int .i64 n', .string s', .int .i64 nu, .int .i64 ma] 26) (d1 : Cs wx ao (vcells x)) (BB : Below w.heap.size w wx) (HSZ : Hid (w3.heap.size ≤ wx.heap.size)) (g8 : Nat) (z8 : At wx g8 #[.bool false, .bool false, .bool false] 34) (h8 : w3.heap.size ≤ g8) (g10 : Nat) (z10 : At wx g10 #[.bool false, .bool false, .bool false] 34) (h10 : w3.heap.size ≤ g10) (e8_10 : g8 ≠ g10), W 5 #[true, true, true, true, true, true, true, false, true, false, true, false, false, false] wx ⟨#[.slice ao m cap, .agg #[.int .u8 k2, .int .i64 n2, .string s2], undef, .pointer (some ⟨w.heap.size, 0, none⟩), .bool false, .bool true, .slice ao f cap, .pointer (some ⟨g7, 0, none⟩), .pointer (some ⟨g8, 0, none⟩), undef, .pointer (some ⟨g10, 0, none⟩), undef, undef, undef, undef, .bool true, .pointer (some ⟨w.heap.size, 2, none⟩), .string s2, .int .i64 (s2.size : Int), .bool (decide (1100 < (s2.size : Int))), undef, .slice ao m cap, .slice ao f cap, .slice ao f cap, .agg #[.int .u8 k, .int .i64 n, .string s, .int .u8 k', .int .i64 n', .string s', .int .i64 nu, .int .i64 ma], .agg #[.int .u8 k, .int .i64 n, .string s, .int .u8 k', .int .i64 n', .string s', .int .i64 nu, .int .i64 ma], .agg #[.int .u8 k2, .int .i64 n2, .string s2], .agg #[.bool ea, .bool eb, .bool ec], .agg #[.int .u8 k, .int .i64 n, .string s, .int .u8 k', .int .i64 n', .string s', .int .i64 nu, .int .i64 ma], .agg #[.int .u8 k2, .int .i64 n2, .string s2], .agg #[.bool la, .bool lb, .bool lc], .agg #[.int .u8 k, .int .i64 n, .string s, .int .u8 k', .int .i64 n', .string s', .int .i64 nu, .int .i64 ma], undef, undef, undef, undef, undef, undef, undef, undef, undef, undef, undef, undef, undef, undef, undef, undef, undef, undef, undef, undef, undef, undef, undef, undef, undef, undef, undef, undef, undef, undef, undef, undef, undef, undef, undef, undef, undef, undef, undef, undef, undef, undef, undef, undef, undef, undef, undef, undef, undef, undef, undef, undef, undef, undef, undef, undef, undef, undef, undef, undef, undef, undef, undef, undef, undef, undef, undef, undef, undef, undef, undef, undef, undef], []⟩ := by
      intro wx zv z7 d1 BB HSZ g8 z8 h8 g10 z10 h10 e8_10
      rw [hW]
      refine mix_each [7, 9] (by decide) (by kernel_rfl) ?_
      intro i hi
      simp only [List.mem_cons, List.not_mem_nil, or_false] at hi
      rcases hi with rfl | rfl
      ·
        refine ⟨_, rfl, rfl, ?_⟩
        go_wp2_with (first | (at_make; refine Stop.un ?_) | (at_builtin; refine Stop.un ?_) | (with_reducible refine Stop.conv 40 9 ?_) | (with_reducible refine Stop.conv 9 40 ?_))
        refine (HNU.out _).mono ?_
        rintro e wq ⟨rfl, bq⟩
        go_wp2_with (first | (at_make; refine Stop.un ?_) | (at_builtin; refine Stop.un ?_) | (with_reducible refine Stop.conv 40 9 ?_) | (with_reducible refine Stop.conv 9 40 ?_))
        refine MixPost.mk (RX.ext bq (Hid.out HSZ)) ?_
        rw [← hW]
        exact H3_8a wq (zv.mono bq) (z7.mono bq) (d1.mono bq (Nat.le_refl _)) (BB.next bq) (Lib.hid (Nat.le_trans (Hid.out HSZ) (Below.size bq))) g8 (z8.mono bq) h8 g10 (z10.mono bq) h10 e8_10
      ·
        refine ⟨_, rfl, rfl, ?_⟩
        go_wp2_with (first | (at_make; refine Stop.un ?_) | (at_builtin; refine Stop.un ?_) | (with_reducible refine Stop.conv 40 9 ?_) | (with_reducible refine Stop.conv 9 40 ?_))
        have bq := (Below.refl wx.heap.size wx).alloc (Nat.le_refl _) (.cells #[.bool false, .bool false, .bool false] 34)
        refine MixPost.mk (RX.ext bq (Hid.out HSZ)) ?_
        rw [← hW]
        exact H2_89a _ (zv.mono bq) (z7.mono bq) (d1.mono bq (Nat.le_refl _)) (BB.next bq) (Lib.hid (Nat.le_trans (Hid.out HSZ) (Below.size bq))) g8 (z8.mono bq) h8 wx.heap.size (At.new wx #[.bool false, .bool false, .bool false] 34) (Hid.out HSZ) g10 (z10.mono bq) h10 (by have := z8.lt; omega) e8_10 (by have := z10.lt; omega)
    have H2_9a : ∀ (wx : World) (zv : At wx w.heap.size #[.int .u8 k2, .int .i64 n2, .string s2] 24) (z7 : At wx g7 #[.int .u8 k, .int .i64 n, .string s, .int .u8 k', .int .i64 n', .string s', .int .i64 nu, .int .i64 ma] 26) (d1 : Cs wx ao (vcells x)) (BB : Below w.heap.size w wx) (HSZ : Hid (w3.heap.size ≤ wx.heap.size)) (g9 : Nat) (z9 : At wx g9 #[.bool false, .bool false, .bool false] 34) (h9 : w3.heap.size ≤ g9) (g10 : Nat) (z10 : At wx g10 #[.bool false, .bool false, .bool false] 34) (h10 : w3.heap.size ≤ g10) (e9_10 : g9 ≠ g10), W 5 #[true, true, true, true, true, true, true, false, false, true, true, false, false, false] wx ⟨#[.slice ao m cap, .agg #[.int .u8 k2, .int .i64 n2, .string s2], undef, .pointer (some ⟨w.heap.size, 0, none⟩), .bool false, .bool true, .slice ao f cap, .pointer (some ⟨g7, 0, none⟩), undef, .pointer (some ⟨g9, 0, none⟩), .pointer (some ⟨g10, 0, none⟩), undef, undef, undef, undef, .bool true, .pointer (some ⟨w.heap.size, 2, none⟩), .string s2, .int .i64 (s2.size : Int), .bool (decide (1100 < (s2.size : Int))), undef, .slice ao m cap, .slice ao f cap, .slice ao f cap, .agg #[.int .u8 k, .int .i64 n, .string s, .int .u8 k', .int .i64 n', .string s', .int .i64 nu, .int .i64 ma], .agg #[.int .u8 k, .int .i64 n, .string s, .int .u8 k', .int .i64 n', .string s', .int .i64 nu, .int .i64 ma], .agg #[.int .u8 k2, .int .i64 n2, .string s2], .agg #[.bool ea, .bool eb, .bool ec], .agg #[.int .u8 k, .int .i64 n, .string s, .int .u8 k', .int .i64 n', .string s', .int .i64 nu, .int .i64 ma], .agg #[.int .u8 k2, .int .i64 n2, .string s2], .agg #[.bool la, .bool lb, .bool lc], .agg #[.int .u8 k, .int .i64 n, .string s, .int .u8 k', .int .i64 n', .string s', .int .i64 nu, .int .i64 ma], undef, undef, undef, undef, undef, undef, undef, undef, undef, undef, undef, undef, undef, undef, undef, undef, undef, undef, undef, undef, undef, undef, undef, undef, undef, undef, undef, undef, undef, undef, undef, undef, undef, undef, undef, undef, undef, undef, undef, undef, undef, undef, undef, undef, undef, undef, undef, undef, undef, undef, undef, undef, undef, undef, undef, undef, undef, undef, undef, undef, undef, undef, undef, undef, undef, undef, undef, undef, undef, undef, undef, undef, undef], []⟩ := by
      intro wx zv z7 d1 BB HSZ g9 z9 h9 g10 z10 h10 e9_10
      rw [hW]
      refine mix_each [7, 8] (by decide) (by kernel_rfl) ?_
      intro i hi
      simp only [List.mem_cons, List.not_mem_nil, or_false] at hi
      rcases hi with rfl | rfl
      ·
        refine ⟨_, rfl, rfl, ?_⟩
        go_wp2_with (first | (at_make; refine Stop.un ?_) | (at_builtin; refine Stop.un ?_) | (with_reducible refine Stop.conv 40 9 ?_) | (with_reducible refine Stop.conv 9 40 ?_))
        refine (HNU.out _).mono ?_
        rintro e wq ⟨rfl, bq⟩
        go_wp2_with (first | (at_make; refine Stop.un ?_) | (at_builtin; refine Stop.un ?_) | (with_reducible refine Stop.conv 40 9 ?_) | (with_reducible refine Stop.conv 9 40 ?_))
        refine MixPost.mk (RX.ext bq (Hid.out HSZ)) ?_
        rw [← hW]
        exact H3_9a wq (zv.mono bq) (z7.mono bq) (d1.mono bq (Nat.le_refl _)) (BB.next bq) (Lib.hid (Nat.le_trans (Hid.out HSZ) (Below.size bq))) g9 (z9.mono bq) h9 g10 (z10.mono bq) h10 e9_10
      ·
        refine ⟨_, rfl, rfl, ?_⟩
        go_wp2_with (first | (at_make; refine Stop.un ?_) | (at_builtin; refine Stop.un ?_) | (with_reducible refine Stop.conv 40 9 ?_) | (with_reducible refine Stop.conv 9 40 ?_))
        have bq := (Below.refl wx.heap.size wx).alloc (Nat.le_refl _) (.cells #[.bool false, .bool false, .bool false] 34)
        refine MixPost.mk (RX.ext bq (Hid.out HSZ)) ?_
        rw [← hW]
        exact H2_89a _ (zv.mono bq) (z7.mono bq) (d1.mono bq (Nat.le_refl _)) (BB.next bq) (Lib.hid (Nat.le_trans (Hid.out HSZ) (Below.size bq))) wx.heap.size (At.new wx #[.bool false, .bool false, .bool false] 34) (Hid.out HSZ) g9 (z9.mono bq) h9 g10 (z10.mono bq) h10 (by have := z9.lt; omega) (by have := z10.lt; omega) e9_10
    have H2_8 : ∀ (wx : World) (zv : At wx w.heap.size #[.int .u8 k2, .int .i64 n2, .string s2] 24) (z7 : At wx g7 #[.int .u8 k, .int .i64 n, .string s, .int .u8 k', .int .i64 n', .string s', .int .i64 nu, .int .i64 ma] 26) (d1 : Cs wx ao (vcells x)) (BB : Below w.heap.size w wx) (HSZ : Hid (w3.heap.size ≤ wx.heap.size)) (g8 : Nat) (z8 : At wx g8 #[.bool false, .bool false, .bool false] 34) (h8 : w3.heap.size ≤ g8), W 6 #[true, true, true, true, true, true, true, false, true, false, false, false, false, false] wx ⟨#[.slice ao m cap, .agg #[.int .u8 k2, .int .i64 n2, .string s2], undef, .pointer (some ⟨w.heap.size, 0, none⟩), .bool false, .bool true, .slice ao f cap, .pointer (some ⟨g7, 0, none⟩), .pointer (some ⟨g8, 0, none⟩), undef, undef, undef, undef, undef, undef, .bool true, .pointer (some ⟨w.heap.size, 2, none⟩), .string s2, .int .i64 (s2.size : Int), .bool (decide (1100 < (s2.size : Int))), undef, .slice ao m cap, .slice ao f cap, .slice ao f cap, .agg #[.int .u8 k, .int .i64 n, .string s, .int .u8 k', .int .i64 n', .string s', .int .i64 nu, .int .i64 ma], .agg #[.int .u8 k, .int .i64 n, .string s, .int .u8 k', .int .i64 n', .string s', .int .i64 nu, .int .i64 ma], .agg #[.int .u8 k2, .int .i64 n2, .string s2], .agg #[.bool ea, .bool eb, .bool ec], .agg #[.int .u8 k, .int .i64 n, .string s, .int .u8 k', .int .i64 n', .string s', .int .i64 nu, .int .i64 ma], .agg #[.int .u8 k2, .int .i64 n2, .string s2], .agg #[.bool la, .bool lb, .bool lc], .agg #[.int .u8 k, .int .i64 n, .string s, .int .u8 k', .int .i64 n', .string s', .int .i64 nu, .int .i64 ma], undef, undef, undef, undef, undef, undef, undef, undef, undef, undef, undef, undef, undef, undef, undef, undef, undef, undef, undef, undef, undef, undef, undef, undef, undef, undef, undef, undef, undef, undef, undef, undef, undef, undef, undef, undef, undef, undef, undef, undef, undef, undef, undef, undef, undef, undef, undef, undef, undef, undef, undef, undef, undef, undef, undef, undef, undef, undef, undef, undef, undef, undef, undef, undef, undef, undef, undef, undef, undef, undef, undef, undef, undef], []⟩ := by
      intro wx zv z7 d1 BB HSZ g8 z8 h8
      rw [hW]
      refine mix_each [7, 9, 10] (by decide) (by kernel_rfl) ?_
      intro i hi
      simp only [List.mem_cons, List.not_mem_nil, or_false] at hi
      rcases hi with rfl | rfl | rfl
      ·
        refine ⟨_, rfl, rfl, ?_⟩
        go_wp2_with (first | (at_make; refine Stop.un ?_) | (at_builtin; refine Stop.un ?_) | (with_reducible refine Stop.conv 40 9 ?_) | (with_reducible refine Stop.conv 9 40 ?_))
        refine (HNU.out _).mono ?_
        rintro e wq ⟨rfl, bq⟩
        go_wp2_with (first | (at_make; refine Stop.un ?_) | (at_builtin; refine Stop.un ?_) | (with_reducible refine Stop.conv 40 9 ?_) | (with_reducible refine Stop.conv 9 40 ?_))
        refine MixPost.mk (RX.ext bq (Hid.out HSZ)) ?_
        rw [← hW]
        exact H3_8 wq (zv.mono bq) (z7.mono bq) (d1.mono bq (Nat.le_refl _)) (BB.next bq) (Lib.hid (Nat.le_trans (Hid.out HSZ) (Below.size bq))) g8 (z8.mono bq) h8
      ·
        refine ⟨_, rfl, rfl, ?_⟩
        go_wp2_with (first | (at_make; refine Stop.un ?_) | (at_builtin; refine Stop.un ?_) | (with_reducible refine Stop.conv 40 9 ?_) | (with_reducible refine Stop.conv 9 40 ?_))
        have bq := (Below.refl wx.heap.size wx).alloc (Nat.le_refl _) (.cells #[.bool false, .bool false, .bool false] 34)
        refine MixPost.mk (RX.ext bq (Hid.out HSZ)) ?_
        rw [← hW]
        exact H2_89 _ (zv.mono bq) (z7.mono bq) (d1.mono bq (Nat.le_refl _)) (BB.next bq) (Lib.hid (Nat.le_trans (Hid.out HSZ) (Below.size bq))) g8 (z8.mono bq) h8 wx.heap.size (At.new wx #[.bool false, .bool false, .bool false] 34) (Hid.out HSZ) (by have := z8.lt; omega)
      ·
        refine ⟨_, rfl, rfl, ?_⟩
        go_wp2_with (first | (at_make; refine Stop.un ?_) | (at_builtin; refine Stop.un ?_) | (with_reducible refine Stop.conv 40 9 ?_) | (with_reducible refine Stop.conv 9 40 ?_))
        have bq := (Below.refl wx.heap.size wx).alloc (Nat.le_refl _) (.cells #[.bool false, .bool false, .bool false] 34)
        refine MixPost.mk (RX.ext bq (Hid.out HSZ)) ?_
        rw [← hW]
        exact H2_8a _ (zv.mono bq) (z7.mono bq) (d1.mono bq (Nat.le_refl _)) (BB.next bq) (Lib.hid (Nat.le_trans (Hid.out HSZ) (Below.size bq))) g8 (z8.mono bq) h8 wx.heap.size (At.new wx #[.bool false, .bool false, .bool false] 34) (Hid.out HSZ) (by have := z8.lt; omega)
    have H2_9 : ∀ (wx : World) (zv : At wx w.heap.size #[.int .u8 k2, .int .i64 n2, .string s2] 24) (z7 : At wx g7 #[.int .u8 k, .int .i64 n, .string s, .int .u8 k', .int .i64 n', .string s', .int .i64 nu, .int .i64 ma] 26) (d1 : Cs wx ao (vcells x)) (BB : Below w.heap.size w wx) (HSZ : Hid (w3.heap.size ≤ wx.heap.size)) (g9 : Nat) (z9 : At wx g9 #[.bool false, .bool false, .bool false] 34) (h9 : w3.heap.size ≤ g9), W 6 #[true, true, true, true, true, true, true, false, false, true, false, false, false, false] wx ⟨#[.slice ao m cap, .agg #[.int .u8 k2, .int .i64 n2, .string s2], undef, .pointer (some ⟨w.heap.size, 0, none⟩), .bool false, .bool true, .slice ao f cap, .pointer (some ⟨g7, 0, none⟩), undef, .pointer (some ⟨g9, 0, none⟩), undef, undef, undef, undef, undef, .bool true, .pointer (some ⟨w.heap.size, 2, none⟩), .string s2, .int .i64 (s2.size : Int), .bool (decide (1100 < (s2.size : Int))), undef, .slice ao m cap, .slice ao f cap, .slice ao f cap, .agg #[.int .u8 k, .int .i64 n, .string s, .int .u8 k', .int .i64 n', .string s', .int .i64 nu, .int .i64 ma], .agg #[.int .u8 k, .int .i64 n, .string s, .int .u8 k', .int .i64 n', .string s', .int .i64 nu, .int .i64 ma], .agg #[.int .u8 k2, .int .i64 n2, .string s2], .agg #[.bool ea, .bool eb, .bool ec], .agg #[.int .u8 k, .int .i64 n, .string s, .int .u8 k', .int .i64 n', .string s', .int .i64 nu, .int .i64 ma], .agg #[.int .u8 k2, .int .i64 n2, .string s2], .agg #[.bool la, .bool lb, .bool lc], .agg #[.int .u8 k, .int .i64 n, .string s, .int .u8 k', .int .i64 n', .string s', .int .i64 nu, .int .i64 ma], undef, undef, undef, undef, undef, undef, undef, undef, undef, undef, undef, undef, undef, undef, undef, undef, undef, undef, undef, undef, undef, undef, undef, undef, undef, undef, undef, undef, undef, undef, undef, undef, undef, undef, undef, undef, undef, undef, undef, undef, undef, undef, undef, undef, undef, undef, undef, undef, undef, undef, undef, undef, undef, undef, undef, undef, undef, undef, undef, undef, undef, undef, undef, undef, undef, undef, undef, undef, undef, undef, undef, undef, undef], []⟩ := by
      intro wx zv z7 d1 BB HSZ g9 z9 h9
      rw [hW]
      refine mix_each [7, 8, 10] (by decide) (by kernel_rfl) ?_
      intro i hi
      simp only [List.mem_cons, List.not_mem_nil, or_false] at hi
      rcases hi with rfl | rfl | rfl
      ·
        refine ⟨_, rfl, rfl, ?_⟩
        go_wp2_with (first | (at_make; refine Stop.un ?_) | (at_builtin; refine Stop.un ?_) | (with_reducible refine Stop.conv 40 9 ?_) | (with_reducible refine Stop.conv 9 40 ?_))
        refine (HNU.out _).mono ?_
        rintro e wq ⟨rfl, bq⟩
        go_wp2_with (first | (at_make; refine Stop.un ?_) | (at_builtin; refine Stop.un ?_) | (with_reducible refine Stop.conv 40 9 ?_) | (with_reducible refine Stop.conv 9 40 ?_))
        refine MixPost.mk (RX.ext bq (Hid.out HSZ)) ?_
        rw [← hW]
        exact H3_9 wq (zv.mono bq) (z7.mono bq) (d1.mono bq (Nat.le_refl _)) (BB.next bq) (Lib.hid (Nat.le_trans (Hid.out HSZ) (Below.size bq))) g9 (z9.mono bq) h9
      ·
        refine ⟨_, rfl, rfl, ?_⟩
        go_wp2_with (first | (at_make; refine Stop.un ?_) | (at_builtin; refine Stop.un ?_) | (with_reducible refine Stop.conv 40 9 ?_) | (with_reducible refine Stop.conv 9 40 ?_))
        have bq := (Below.refl wx.heap.size wx).alloc (Nat.le_refl _) (.cells #[.bool false, .bool false, .bool false] 34)
        refine MixPost.mk (RX.ext bq (Hid.out HSZ)) ?_
        rw [← hW]
        exact H2_89 _ (zv.mono bq) (z7.mono bq) (d1.mono bq (Nat.le_refl _)) (BB.next bq) (Lib.hid (Nat.le_trans (Hid.out HSZ) (Below.size bq))) wx.heap.size (At.new wx #[.bool false, .bool false, .bool false] 34) (Hid.out HSZ) g9 (z9.mono bq) h9 (by have := z9.lt; omega)
      ·
        refine ⟨_, rfl, rfl, ?_⟩
        go_wp2_with (first | (at_make; refine Stop.un ?_) | (at_builtin; refine Stop.un ?_) | (with_reducible refine Stop.conv 40 9 ?_) | (with_reducible refine Stop.conv 9 40 ?_))
        have bq := (Below.refl wx.heap.size wx).alloc (Nat.le_refl _) (.cells #[.bool false, .bool false, .bool false] 34)
        refine MixPost.mk (RX.ext bq (Hid.out HSZ)) ?_
        rw [← hW]
        exact H2_9a _ (zv.mono bq) (z7.mono bq) (d1.mono bq (Nat.le_refl _)) (BB.next bq) (Lib.hid (Nat.le_trans (Hid.out HSZ) (Below.size bq))) g9 (z9.mono bq) h9 wx.heap.size (At.new wx #[.bool false, .bool false, .bool false] 34) (Hid.out HSZ) (by have := z9.lt; omega)
    have H2_a : ∀ (wx : World) (zv : At wx w.heap.size #[.int .u8 k2, .int .i64 n2, .string s2] 24) (z7 : At wx g7 #[.int .u8 k, .int .i64 n, .string s, .int .u8 k', .int .i64 n', .string s', .int .i64 nu, .int .i64 ma] 26) (d1 : Cs wx ao (vcells x)) (BB : Below w.heap.size w wx) (HSZ : Hid (w3.heap.size ≤ wx.heap.size)) (g10 : Nat) (z10 : At wx g10 #[.bool false, .bool false, .bool false] 34) (h10 : w3.heap.size ≤ g10), W 6 #[true, true, true, true, true, true, true, false, false, false, true, false, false, false] wx ⟨#[.slice ao m cap, .agg #[.int .u8 k2, .int .i64 n2, .string s2], undef, .pointer (some ⟨w.heap.size, 0, none⟩), .bool false, .bool true, .slice ao f cap, .pointer (some ⟨g7, 0, none⟩), undef, undef, .pointer (some ⟨g10, 0, none⟩), undef, undef, undef, undef, .bool true, .pointer (some ⟨w.heap.size, 2, none⟩), .string s2, .int .i64 (s2.size : Int), .bool (decide (1100 < (s2.size : Int))), undef, .slice ao m cap, .slice ao f cap, .slice ao f cap, .agg #[.int .u8 k, .int .i64 n, .string s, .int .u8 k', .int .i64 n', .string s', .int .i64 nu, .int .i64 ma], .agg #[.int .u8 k, .int .i64 n, .string s, .int .u8 k', .int .i64 n', .string s', .int .i64 nu, .int .i64 ma], .agg #[.int .u8 k2, .int .i64 n2, .string s2], .agg #[.bool ea, .bool eb, .bool ec], .agg #[.int .u8 k, .int .i64 n, .string s, .int .u8 k', .int .i64 n', .string s', .int .i64 nu, .int .i64 ma], .agg #[.int .u8 k2, .int .i64 n2, .string s2], .agg #[.bool la, .bool lb, .bool lc], .agg #[.int .u8 k, .int .i64 n, .string s, .int .u8 k', .int .i64 n', .string s', .int .i64 nu, .int .i64 ma], undef, undef, undef, undef, undef, undef, undef, undef, undef, undef, undef, undef, undef, undef, undef, undef, undef, undef, undef, undef, undef, undef, undef, undef, undef, undef, undef, undef, undef, undef, undef, undef, undef, undef, undef, undef, undef, undef, undef, undef, undef, undef, undef, undef, undef, undef, undef, undef, undef, undef, undef, undef, undef, undef, undef, undef, undef, undef, undef, undef, undef, undef, undef, undef, undef, undef, undef, undef, undef, undef, undef, undef, undef], []⟩ := by
      intro wx zv z7 d1 BB HSZ g10 z10 h10
      rw [hW]
      refine mix_each [7, 8, 9] (by decide) (by kernel_rfl) ?_
      intro i hi
      simp only [List.mem_cons, List.not_mem_nil, or_false] at hi
      rcases hi with rfl | rfl | rfl
      ·
        refine ⟨_, rfl, rfl, ?_⟩
        go_wp2_with (first | (at_make; refine Stop.un ?_) | (at_builtin; refine Stop.un ?_) | (with_reducible refine Stop.conv 40 9 ?_) | (with_reducible refine Stop.conv 9 40 ?_))
        refine (HNU.out _).mono ?_
        rintro e wq ⟨rfl, bq⟩
        go_wp2_with (first | (at_make; refine Stop.un ?_) | (at_builtin; refine Stop.un ?_) | (with_reducible refine Stop.conv 40 9 ?_) | (with_reducible refine Stop.conv 9 40 ?_))
        refine MixPost.mk (RX.ext bq (Hid.out HSZ)) ?_
        rw [← hW]
        exact H3_a wq (zv.mono bq) (z7.mono bq) (d1.mono bq (Nat.le_refl _)) (BB.next bq) (Lib.hid (Nat.le_trans (Hid.out HSZ) (Below.size bq))) g10 (z10.mono bq) h10
      ·
        refine ⟨_, rfl, rfl, ?_⟩
        go_wp2_with (first | (at_make; refine Stop.un ?_) | (at_builtin; refine Stop.un ?_) | (with_reducible refine Stop.conv 40 9 ?_) | (with_reducible refine Stop.conv 9 40 ?_))
        have bq := (Below.refl wx.heap.size wx).alloc (Nat.le_refl _) (.cells #[.bool false, .bool false, .bool false] 34)
        refine MixPost.mk (RX.ext bq (Hid.out HSZ)) ?_
        rw [← hW]
        exact H2_8a _ (zv.mono bq) (z7.mono bq) (d1.mono bq (Nat.le_refl _)) (BB.next bq) (Lib.hid (Nat.le_trans (Hid.out HSZ) (Below.size bq))) wx.heap.size (At.new wx #[.bool false, .bool false, .bool false] 34) (Hid.out HSZ) g10 (z10.mono bq) h10 (by have := z10.lt; omega)
      ·
        refine ⟨_, rfl, rfl, ?_⟩
        go_wp2_with (first | (at_make; refine Stop.un ?_) | (at_builtin; refine Stop.un ?_) | (with_reducible refine Stop.conv 40 9 ?_) | (with_reducible refine Stop.conv 9 40 ?_))
        have bq := (Below.refl wx.heap.size wx).alloc (Nat.le_refl _) (.cells #[.bool false, .bool false, .bool false] 34)
        refine MixPost.mk (RX.ext bq (Hid.out HSZ)) ?_
        rw [← hW]
        exact H2_9a _ (zv.mono bq) (z7.mono bq) (d1.mono bq (Nat.le_refl _)) (BB.next bq) (Lib.hid (Nat.le_trans (Hid.out HSZ) (Below.size bq))) wx.heap.size (At.new wx #[.bool false, .bool false, .bool false] 34) (Hid.out HSZ) g10 (z10.mono bq) h10 (by have := z10.lt; omega)
    have H2_ : ∀ (wx : World) (zv : At wx w.heap.size #[.int .u8 k2, .int .i64 n2, .string s2] 24) (z7 : At wx g7 #[.int .u8 k, .int .i64 n, .string s, .int .u8 k', .int .i64 n', .string s', .int .i64 nu, .int .i64 ma] 26) (d1 : Cs wx ao (vcells x)) (BB : Below w.heap.size w wx) (HSZ : Hid (w3.heap.size ≤ wx.heap.size)), W 7 #[true, true, true, true, true, true, true, false, false, false, false, false, false, false] wx ⟨#[.slice ao m cap, .agg #[.int .u8 k2, .int .i64 n2, .string s2], undef, .pointer (some ⟨w.heap.size, 0, none⟩), .bool false, .bool true, .slice ao f cap, .pointer (some ⟨g7, 0, none⟩), undef, undef, undef, undef, undef, undef, undef, .bool true, .pointer (some ⟨w.heap.size, 2, none⟩), .string s2, .int .i64 (s2.size : Int), .bool (decide (1100 < (s2.size : Int))), undef, .slice ao m cap, .slice ao f cap, .slice ao f cap, .agg #[.int .u8 k, .int .i64 n, .string s, .int .u8 k', .int .i64 n', .string s', .int .i64 nu, .int .i64 ma], .agg #[.int .u8 k, .int .i64 n, .string s, .int .u8 k', .int .i64 n', .string s', .int .i64 nu, .int .i64 ma], .agg #[.int .u8 k2, .int .i64 n2, .string s2], .agg #[.bool ea, .bool eb, .bool ec], .agg #[.int .u8 k, .int .i64 n, .string s, .int .u8 k', .int .i64 n', .string s', .int .i64 nu, .int .i64 ma], .agg #[.int .u8 k2, .int .i64 n2, .string s2], .agg #[.bool la, .bool lb, .bool lc], .agg #[.int .u8 k, .int .i64 n, .string s, .int .u8 k', .int .i64 n', .string s', .int .i64 nu, .int .i64 ma], undef, undef, undef, undef, undef, undef, undef, undef, undef, undef, undef, undef, undef, undef, undef, undef, undef, undef, undef, undef, undef, undef, undef, undef, undef, undef, undef, undef, undef, undef, undef, undef, undef, undef, undef, undef, undef, undef, undef, undef, undef, undef, undef, undef, undef, undef, undef, undef, undef, undef, undef, undef, undef, undef, undef, undef, undef, undef, undef, undef, undef, undef, undef, undef, undef, undef, undef, undef, undef, undef, undef, undef, undef], []⟩ := by
      intro wx zv z7 d1 BB HSZ
      rw [hW]
      refine mix_each [7, 8, 9, 10] (by decide) (by kernel_rfl) ?_
      intro i hi
      simp only [List.mem_cons, List.not_mem_nil, or_false] at hi
      rcases hi with rfl | rfl | rfl | rfl
      ·
        refine ⟨_, rfl, rfl, ?_⟩
        go_wp2_with (first | (at_make; refine Stop.un ?_) | (at_builtin; refine Stop.un ?_) | (with_reducible refine Stop.conv 40 9 ?_) | (with_reducible refine Stop.conv 9 40 ?_))
        refine (HNU.out _).mono ?_
        rintro e wq ⟨rfl, bq⟩
        go_wp2_with (first | (at_make; refine Stop.un ?_) | (at_builtin; refine Stop.un ?_) | (with_reducible refine Stop.conv 40 9 ?_) | (with_reducible refine Stop.conv 9 40 ?_))
        refine MixPost.mk (RX.ext bq (Hid.out HSZ)) ?_
        rw [← hW]
        exact H3_ wq (zv.mono bq) (z7.mono bq) (d1.mono bq (Nat.le_refl _)) (BB.next bq) (Lib.hid (Nat.le_trans (Hid.out HSZ) (Below.size bq)))
      ·
        refine ⟨_, rfl, rfl, ?_⟩
        go_wp2_with (first | (at_make; refine Stop.un ?_) | (at_builtin; refine Stop.un ?_) | (with_reducible refine Stop.conv 40 9 ?_) | (with_reducible refine Stop.conv 9 40 ?_))
        have bq := (Below.refl wx.heap.size wx).alloc (Nat.le_refl _) (.cells #[.bool false, .bool false, .bool false] 34)
        refine MixPost.mk (RX.ext bq (Hid.out HSZ)) ?_
        rw [← hW]
        exact H2_8 _ (zv.mono bq) (z7.mono bq) (d1.mono bq (Nat.le_refl _)) (BB.next bq) (Lib.hid (Nat.le_trans (Hid.out HSZ) (Below.size bq))) wx.heap.size (At.new wx #[.bool false, .bool false, .bool false] 34) (Hid.out HSZ)
      ·
        refine ⟨_, rfl, rfl, ?_⟩
        go_wp2_with (first | (at_make; refine Stop.un ?_) | (at_builtin; refine Stop.un ?_) | (with_reducible refine Stop.conv 40 9 ?_) | (with_reducible refine Stop.conv 9 40 ?_))
        have bq := (Below.refl wx.heap.size wx).alloc (Nat.le_refl _) (.cells #[.bool false, .bool false, .bool false] 34)
        refine MixPost.mk (RX.ext bq (Hid.out HSZ)) ?_
        rw [← hW]
        exact H2_9 _ (zv.mono bq) (z7.mono bq) (d1.mono bq (Nat.le_refl _)) (BB.next bq) (Lib.hid (Nat.le_trans (Hid.out HSZ) (Below.size bq))) wx.heap.size (At.new wx #[.bool false, .bool false, .bool false] 34) (Hid.out HSZ)
      ·
        refine ⟨_, rfl, rfl, ?_⟩
        go_wp2_with (first | (at_make; refine Stop.un ?_) | (at_builtin; refine Stop.un ?_) | (with_reducible refine Stop.conv 40 9 ?_) | (with_reducible refine Stop.conv 9 40 ?_))
        have bq := (Below.refl wx.heap.size wx).alloc (Nat.le_refl _) (.cells #[.bool false, .bool false, .bool false] 34)
        refine MixPost.mk (RX.ext bq (Hid.out HSZ)) ?_
        rw [← hW]
        exact H2_a _ (zv.mono bq) (z7.mono bq) (d1.mono bq (Nat.le_refl _)) (BB.next bq) (Lib.hid (Nat.le_trans (Hid.out HSZ) (Below.size bq))) wx.heap.size (At.new wx #[.bool false, .bool false, .bool false] 34) (Hid.out HSZ)
    have H1_89a : ∀ (wx : World) (zv : At wx w.heap.size #[.int .u8 k2, .int .i64 n2, .string s2] 24) (z7 : At wx g7 #[.int .u8 k, .int .i64 n, .string s, .int .u8 k', .int .i64 n', .string s', .int .i64 nu, .int .i64 ma] 26) (d1 : Cs wx ao (vcells x)) (BB : Below w.heap.size w wx) (HSZ : Hid (w3.heap.size ≤ wx.heap.size)) (g8 : Nat) (z8 : At wx g8 #[.bool false, .bool false, .bool false] 34) (h8 : w3.heap.size ≤ g8) (g9 : Nat) (z9 : At wx g9 #[.bool false, .bool false, .bool false] 34) (h9 : w3.heap.size ≤ g9) (g10 : Nat) (z10 : At wx g10 #[.bool false, .bool false, .bool false] 34) (h10 : w3.heap.size ≤ g10) (e8_9 : g8 ≠ g9) (e8_10 : g8 ≠ g10) (e9_10 : g9 ≠ g10), W 5 #[true, true, true, true, true, false, true, false, true, true, true, false, false, false] wx ⟨#[.slice ao m cap, .agg #[.int .u8 k2, .int .i64 n2, .string s2], undef, .pointer (some ⟨w.heap.size, 0, none⟩), .bool false, .bool true, .slice ao f cap, .pointer (some ⟨g7, 0, none⟩), .pointer (some ⟨g8, 0, none⟩), .pointer (some ⟨g9, 0, none⟩), .pointer (some ⟨g10, 0, none⟩), undef, undef, undef, undef, .bool true, .pointer (some ⟨w.heap.size, 2, none⟩), .string s2, .int .i64 (s2.size : Int), .bool (decide (1100 < (s2.size : Int))), undef, .slice ao m cap, .slice ao f cap, .slice ao f cap, .agg #[.int .u8 k, .int .i64 n, .string s, .int .u8 k', .int .i64 n', .string s', .int .i64 nu, .int .i64 ma], .agg #[.int .u8 k, .int .i64 n, .string s, .int .u8 k', .int .i64 n', .string s', .int .i64 nu, .int .i64 ma], .agg #[.int .u8 k2, .int .i64 n2, .string s2], .agg #[.bool ea, .bool eb, .bool ec], .agg #[.int .u8 k, .int .i64 n, .string s, .int .u8 k', .int .i64 n', .string s', .int .i64 nu, .int .i64 ma], .agg #[.int .u8 k2, .int .i64 n2, .string s2], undef, .agg #[.int .u8 k, .int .i64 n, .string s, .int .u8 k', .int .i64 n', .string s', .int .i64 nu, .int .i64 ma], undef, undef, undef, undef, undef, undef, undef, undef, undef, undef, undef, undef, undef, undef, undef, undef, undef, undef, undef, undef, undef, undef, undef, undef, undef, undef, undef, undef, undef, undef, undef, undef, undef, undef, undef, undef, undef, undef, undef, undef, undef, undef, undef, undef, undef, undef, undef, undef, undef, undef, undef, undef, undef, undef, undef, undef, undef, undef, undef, undef, undef, undef, undef, undef, undef, undef, undef, undef, undef, undef, undef, undef, undef], []⟩ := by
      intro wx zv z7 d1 BB HSZ g8 z8 h8 g9 z9 h9 g10 z10 h10 e8_9 e8_10 e9_10
      rw [hW]
      refine mix_each [5] (by decide) (by kernel_rfl) ?_
      intro i hi
      simp only [List.mem_cons, List.not_mem_nil, or_false] at hi
      subst hi
      ·
        refine ⟨_, rfl, rfl, ?_⟩
        go_wp2_with (first | (at_make; refine Stop.un ?_) | (at_builtin; refine Stop.un ?_) | (with_reducible refine Stop.conv 40 9 ?_) | (with_reducible refine Stop.conv 9 40 ?_))
        refine (HLE.out _).mono ?_
        rintro e wq ⟨rfl, bq⟩
        go_wp2_with (first | (at_make; refine Stop.un ?_) | (at_builtin; refine Stop.un ?_) | (with_reducible refine Stop.conv 40 9 ?_) | (with_reducible refine Stop.conv 9 40 ?_))
        refine MixPost.mk (RX.ext bq (Hid.out HSZ)) ?_
        rw [← hW]
        exact H2_89a wq (zv.mono bq) (z7.mono bq) (d1.mono bq (Nat.le_refl _)) (BB.next bq) (Lib.hid (Nat.le_trans (Hid.out HSZ) (Below.size bq))) g8 (z8.mono bq) h8 g9 (z9.mono bq) h9 g10 (z10.mono bq) h10 e8_9 e8_10 e9_10
    have H1_89 : ∀ (wx : World) (zv : At wx w.heap.size #[.int .u8 k2, .int .i64 n2, .string s2] 24) (z7 : At wx g7 #[.int .u8 k, .int .i64 n, .string s, .int .u8 k', .int .i64 n', .string s', .int .i64 nu, .int .i64 ma] 26) (d1 : Cs wx ao (vcells x)) (BB : Below w.heap.size w wx) (HSZ : Hid (w3.heap.size ≤ wx.heap.size)) (g8 : Nat) (z8 : At wx g8 #[.bool false, .bool false, .bool false] 34) (h8 : w3.heap.size ≤ g8) (g9 : Nat) (z9 : At wx g9 #[.bool false, .bool false, .bool false] 34) (h9 : w3.heap.size ≤ g9) (e8_9 : g8 ≠ g9), W 6 #[true, true, true, true, true, false, true, false, true, true, false, false, false, false] wx ⟨#[.slice ao m cap, .agg #[.int .u8 k2, .int .i64 n2, .string s2], undef, .pointer (some ⟨w.heap.size, 0, none⟩), .bool false, .bool true, .slice ao f cap, .pointer (some ⟨g7, 0, none⟩), .pointer (some ⟨g8, 0, none⟩), .pointer (some ⟨g9, 0, none⟩), undef, undef, undef, undef, undef, .bool true, .pointer (some ⟨w.heap.size, 2, none⟩), .string s2, .int .i64 (s2.size : Int), .bool (decide (1100 < (s2.size : Int))), undef, .slice ao m cap, .slice ao f cap, .slice ao f cap, .agg #[.int .u8 k, .int .i64 n, .string s, .int .u8 k', .int .i64 n', .string s', .int .i64 nu, .int .i64 ma], .agg #[.int .u8 k, .int .i64 n, .string s, .int .u8 k', .int .i64 n', .string s', .int .i64 nu, .int .i64 ma], .agg #[.int .u8 k2, .int .i64 n2, .string s2], .agg #[.bool ea, .bool eb, .bool ec], .agg #[.int .u8 k, .int .i64 n, .string s, .int .u8 k', .int .i64 n', .string s', .int .i64 nu, .int .i64 ma], .agg #[.int .u8 k2, .int .i64 n2, .string s2], undef, .agg #[.int .u8 k, .int .i64 n, .string s, .int .u8 k', .int .i64 n', .string s', .int .i64 nu, .int .i64 ma], undef, undef, undef, undef, undef, undef, undef, undef, undef, undef, undef, undef, undef, undef, undef, undef, undef, undef, undef, undef, undef, undef, undef, undef, undef, undef, undef, undef, undef, undef, undef, undef, undef, undef, undef, undef, undef, undef, undef, undef, undef, undef, undef, undef, undef, undef, undef, undef, undef, undef, undef, undef, undef, undef, undef, undef, undef, undef, undef, undef, undef, undef, undef, undef, undef, undef, undef, undef, undef, undef, undef, undef, undef], []⟩ := by
      intro wx zv z7 d1 BB HSZ g8 z8 h8 g9 z9 h9 e8_9
      rw [hW]
      refine mix_each [5, 10] (by decide) (by kernel_rfl) ?_
      intro i hi
      simp only [List.mem_cons, List.not_mem_nil, or_false] at hi
      rcases hi with rfl | rfl
      ·
        refine ⟨_, rfl, rfl, ?_⟩
        go_wp2_with (first | (at_make; refine Stop.un ?_) | (at_builtin; refine Stop.un ?_) | (with_reducible refine Stop.conv 40 9 ?_) | (with_reducible refine Stop.conv 9 40 ?_))
        refine (HLE.out _).mono ?_
        rintro e wq ⟨rfl, bq⟩
        go_wp2_with (first | (at_make; refine Stop.un ?_) | (at_builtin; refine Stop.un ?_) | (with_reducible refine Stop.conv 40 9 ?_) | (with_reducible refine Stop.conv 9 40 ?_))
        refine MixPost.mk (RX.ext bq (Hid.out HSZ)) ?_
        rw [← hW]
        exact H2_89 wq (zv.mono bq) (z7.mono bq) (d1.mono bq (Nat.le_refl _)) (BB.next bq) (Lib.hid (Nat.le_trans (Hid.out HSZ) (Below.size bq))) g8 (z8.mono bq) h8 g9 (z9.mono bq) h9 e8_9
      ·
        refine ⟨_, rfl, rfl, ?_⟩
        go_wp2_with (first | (at_make; refine Stop.un ?_) | (at_builtin; refine Stop.un ?_) | (with_reducible refine Stop.conv 40 9 ?_) | (with_reducible refine Stop.conv 9 40 ?_))
        have bq := (Below.refl wx.heap.size wx).alloc (Nat.le_refl _) (.cells #[.bool false, .bool false, .bool false] 34)
        refine MixPost.mk (RX.ext bq (Hid.out HSZ)) ?_
        rw [← hW]
        exact H1_89a _ (zv.mono bq) (z7.mono bq) (d1.mono bq (Nat.le_refl _)) (BB.next bq) (Lib.hid (Nat.le_trans (Hid.out HSZ) (Below.size bq))) g8 (z8.mono bq) h8 g9 (z9.mono bq) h9 wx.heap.size (At.new wx #[.bool false, .bool false, .bool false] 34) (Hid.out HSZ) e8_9 (by have := z8.lt; omega) (by have := z9.lt; omega)
    have H1_8a : ∀ (wx : World) (zv : At wx w.heap.size #[.int .u8 k2, .int .i64 n2, .string s2] 24) (z7 : At wx g7 #[.int .u8 k, .int .i64 n, .string s, .int .u8 k', .int .i64 n', .string s', .int .i64 nu, .int .i64 ma] 26) (d1 : Cs wx ao (vcells x)) (BB : Below w.heap.size w wx) (HSZ : Hid (w3.heap.size ≤ wx.heap.size)) (g8 : Nat) (z8 : At wx g8 #[.bool false, .bool false, .bool false] 34) (h8 : w3.heap.size ≤ g8) (g10 : Nat) (z10 : At wx g10 #[.bool false, .bool false, .bool false] 34) (h10 : w3.heap.size ≤ g10) (e8_10 : g8 ≠ g10), W 6 #[true, true, true, true, true, false, true, false, true, false, true, false, false, false] wx ⟨#[.slice ao m cap, .agg #[.int .u8 k2, .int .i64 n2, .string s2], undef, .pointer (some ⟨w.heap.size, 0, none⟩), .bool false, .bool true, .slice ao f cap, .pointer (some ⟨g7, 0, none⟩), .pointer (some ⟨g8, 0, none⟩), undef, .pointer (some ⟨g10, 0, none⟩), undef, undef, undef, undef, .bool true, .pointer (some ⟨w.heap.size, 2, none⟩), .string s2, .int .i64 (s2.size : Int), .bool (decide (1100 < (s2.size : Int))), undef, .slice ao m cap, .slice ao f cap, .slice ao f cap, .agg #[.int .u8 k, .int .i64 n, .string s, .int .u8 k', .int .i64 n', .string s', .int .i64 nu, .int .i64 ma], .agg #[.int .u8 k, .int .i64 n, .string s, .int .u8 k', .int .i64 n', .string s', .int .i64 nu, .int .i64 ma], .agg #[.int .u8 k2, .int .i64 n2, .string s2], .agg #[.bool ea, .bool eb, .bool ec], .agg #[.int .u8 k, .int .i64 n, .string s, .int .u8 k', .int .i64 n', .string s', .int .i64 nu, .int .i64 ma], .agg #[.int .u8 k2, .int .i64 n2, .string s2], undef, .agg #[.int .u8 k, .int .i64 n, .string s, .int .u8 k', .int .i64 n', .string s', .int .i64 nu, .int .i64 ma], undef, undef, undef, undef, undef, undef, undef, undef, undef, undef, undef, undef, undef, undef, undef, undef, undef, undef, undef, undef, undef, undef, undef, undef, undef, undef, undef, undef, undef, undef, undef, undef, undef, undef, undef, undef, undef, undef, undef, undef, undef, undef, undef, undef, undef, undef, undef, undef, undef, undef, undef, undef, undef, undef, undef, undef, undef, undef, undef, undef, undef, undef, undef, undef, undef, undef, undef, undef, undef, undef, undef, undef, undef], []⟩ := by
      intro wx zv z7 d1 BB HSZ g8 z8 h8 g10 z10 h10 e8_10
      rw [hW]
      refine mix_each [5, 9] (by decide) (by kernel_rfl) ?_
      intro i hi
      simp only [List.mem_cons, List.not_mem_nil, or_false] at hi
      rcases hi with rfl | rfl
      ·
        refine ⟨_, rfl, rfl, ?_⟩
        go_wp2_with (first | (at_make; refine Stop.un ?_) | (at_builtin; refine Stop.un ?_) | (with_reducible refine Stop.conv 40 9 ?_) | (with_reducible refine Stop.conv 9 40 ?_))
        refine (HLE.out _).mono ?_
        rintro e wq ⟨rfl, bq⟩
        go_wp2_with (first | (at_make; refine Stop.un ?_) | (at_builtin; refine Stop.un ?_) | (with_reducible refine Stop.conv 40 9 ?_) | (with_reducible refine Stop.conv 9 40 ?_))
        refine MixPost.mk (RX.ext bq (Hid.out HSZ)) ?_
        rw [← hW]
        exact H2_8a wq (zv.mono bq) (z7.mono bq) (d1.mono bq (Nat.le_refl _)) (BB.next bq) (Lib.hid (Nat.le_trans (Hid.out HSZ) (Below.size bq))) g8 (z8.mono bq) h8 g10 (z10.mono bq) h10 e8_10
      ·
        refine ⟨_, rfl, rfl, ?_⟩
        go_wp2_with (first | (at_make; refine Stop.un ?_) | (at_builtin; refine Stop.un ?_) | (with_reducible refine Stop.conv 40 9 ?_) | (with_reducible refine Stop.conv 9 40 ?_))
        have bq := (Below.refl wx.heap.size wx).alloc (Nat.le_refl _) (.cells #[.bool false, .bool false, .bool false] 34)
        refine MixPost.mk (RX.ext bq (Hid.out HSZ)) ?_
        rw [← hW]
        exact H1_89a _ (zv.mono bq) (z7.mono bq) (d1.mono bq (Nat.le_refl _)) (BB.next bq) (Lib.hid (Nat.le_trans (Hid.out HSZ) (Below.size bq))) g8 (z8.mono bq) h8 wx.heap.size (At.new wx #[.bool false, .bool false, .bool false] 34) (Hid.out HSZ) g10 (z10.mono bq) h10 (by have := z8.lt; omega) e8_10 (by have := z10.lt; omega)
    have H1_9a : ∀ (wx : World) (zv : At wx w.heap.size #[.int .u8 k2, .int .i64 n2, .string s2] 24) (z7 : At wx g7 #[.int .u8 k, .int .i64 n, .string s, .int .u8 k', .int .i64 n', .string s', .int .i64 nu, .int .i64 ma] 26) (d1 : Cs wx ao (vcells x)) (BB : Below w.heap.size w wx) (HSZ : Hid (w3.heap.size ≤ wx.heap.size)) (g9 : Nat) (z9 : At wx g9 #[.bool false, .bool false, .bool false] 34) (h9 : w3.heap.size ≤ g9) (g10 : Nat) (z10 : At wx g10 #[.bool false, .bool false, .bool false] 34) (h10 : w3.heap.size ≤ g10) (e9_10 : g9 ≠ g10), W 6 #[true, true, true, true, true, false, true, false, false, true, true, false, false, false] wx ⟨#[.slice ao m cap, .agg #[.int .u8 k2, .int .i64 n2, .string s2], undef, .pointer (some ⟨w.heap.size, 0, none⟩), .bool false, .bool true, .slice ao f cap, .pointer (some ⟨g7, 0, none⟩), undef, .pointer (some ⟨g9, 0, none⟩), .pointer (some ⟨g10, 0, none⟩), undef, undef, undef, undef, .bool true, .pointer (some ⟨w.heap.size, 2, none⟩), .string s2, .int .i64 (s2.size : Int), .bool (decide (1100 < (s2.size : Int))), undef, .slice ao m cap, .slice ao f cap, .slice ao f cap, .agg #[.int .u8 k, .int .i64 n, .string s, .int .u8 k', .int .i64 n', .string s', .int .i64 nu, .int .i64 ma], .agg #[.int .u8 k, .int .i64 n, .string s, .int .u8 k', .int .i64 n', .string s', .int .i64 nu, .int .i64 ma], .agg #[.int .u8 k2, .int .i64 n2, .string s2], .agg #[.bool ea, .bool eb, .bool ec], .agg #[.int .u8 k, .int .i64 n, .string s, .int .u8 k', .int .i64 n', .string s', .int .i64 nu, .int .i64 ma], .agg #[.int .u8 k2, .int .i64 n2, .string s2], undef, .agg #[.int .u8 k, .int .i64 n, .string s, .int .u8 k', .int .i64 n', .string s', .int .i64 nu, .int .i64 ma], undef, undef, undef, undef, undef, undef, undef, undef, undef, undef, undef, undef, undef, undef, undef, undef, undef, undef, undef, undef, undef, undef, undef, undef, undef, undef, undef, undef, undef, undef, undef, undef, undef, undef, undef, undef, undef, undef, undef, undef, undef, undef, undef, undef, undef, undef, undef, undef, undef, undef, undef, undef, undef, undef, undef, undef, undef, undef, undef, undef, undef, undef, undef, undef, undef, undef, undef, undef, undef, undef, undef, undef, undef], []⟩ := by
      intro wx zv z7 d1 BB HSZ g9 z9 h9 g10 z10 h10 e9_10
      rw [hW]
      refine mix_each [5, 8] (by decide) (by kernel_rfl) ?_
      intro i hi
      simp only [List.mem_cons, List.not_mem_nil, or_false] at hi
      rcases hi with rfl | rfl
      ·
        refine ⟨_, rfl, rfl, ?_⟩
        go_wp2_with (first | (at_make; refine Stop.un ?_) | (at_builtin; refine Stop.un ?_) | (with_reducible refine Stop.conv 40 9 ?_) | (with_reducible refine Stop.conv 9 40 ?_))
        refine (HLE.out _).mono ?_
        rintro e wq ⟨rfl, bq⟩
        go_wp2_with (first | (at_make; refine Stop.un ?_) | (at_builtin; refine Stop.un ?_) | (with_reducible refine Stop.conv 40 9 ?_) | (with_reducible refine Stop.conv 9 40 ?_))
        refine MixPost.mk (RX.ext bq (Hid.out HSZ)) ?_
        rw [← hW]
        exact H2_9a wq (zv.mono bq) (z7.mono bq) (d1.mono bq (Nat.le_refl _)) (BB.next bq) (Lib.hid (Nat.le_trans (Hid.out HSZ) (Below.size bq))) g9 (z9.mono bq) h9 g10 (z10.mono bq) h10 e9_10
      ·
        refine ⟨_, rfl, rfl, ?_⟩
        go_wp2_with (first | (at_make; refine Stop.un ?_) | (at_builtin; refine Stop.un ?_) | (with_reducible refine Stop.conv 40 9 ?_) | (with_reducible refine Stop.conv 9 40 ?_))
        have bq := (Below.refl wx.heap.size wx).alloc (Nat.le_refl _) (.cells #[.bool false, .bool false, .bool false] 34)
        refine MixPost.mk (RX.ext bq (Hid.out HSZ)) ?_
        rw [← hW]
        exact H1_89a _ (zv.mono bq) (z7.mono bq) (d1.mono bq (Nat.le_refl _)) (BB.next bq) (Lib.hid (Nat.le_trans (Hid.out HSZ) (Below.size bq))) wx.heap.size (At.new wx #[.bool false, .bool false, .bool false] 34) (Hid.out HSZ) g9 (z9.mono bq) h9 g10 (z10.mono bq) h10 (by have := z9.lt; omega) (by have := z10.lt; omega) e9_10
    have H1_8 : ∀ (wx : World) (zv : At wx w.heap.size #[.int .u8 k2, .int .i64 n2, .string s2] 24) (z7 : At wx g7 #[.int .u8 k, .int .i64 n, .string s, .int .u8 k', .int .i64 n', .string s', .int .i64 nu, .int .i64 ma] 26) (d1 : Cs wx ao (vcells x)) (BB : Below w.heap.size w wx) (HSZ : Hid (w3.heap.size ≤ wx.heap.size)) (g8 : Nat) (z8 : At wx g8 #[.bool false, .bool false, .bool false] 34) (h8 : w3.heap.size ≤ g8), W 7 #[true, true, true, true, true, false, true, false, true, false, false, false, false, false] wx ⟨#[.slice ao m cap, .agg #[.int .u8 k2, .int .i64 n2, .string s2], undef, .pointer (some ⟨w.heap.size, 0, none⟩), .bool false, .bool true, .slice ao f cap, .pointer (some ⟨g7, 0, none⟩), .pointer (some ⟨g8, 0, none⟩), undef, undef, undef, undef, undef, undef, .bool true, .pointer (some ⟨w.heap.size, 2, none⟩), .string s2, .int .i64 (s2.size : Int), .bool (decide (1100 < (s2.size : Int))), undef, .slice ao m cap, .slice ao f cap, .slice ao f cap, .agg #[.int .u8 k, .int .i64 n, .string s, .int .u8 k', .int .i64 n', .string s', .int .i64 nu, .int .i64 ma], .agg #[.int .u8 k, .int .i64 n, .string s, .int .u8 k', .int .i64 n', .string s', .int .i64 nu, .int .i64 ma], .agg #[.int .u8 k2, .int .i64 n2, .string s2], .agg #[.bool ea, .bool eb, .bool ec], .agg #[.int .u8 k, .int .i64 n, .string s, .int .u8 k', .int .i64 n', .string s', .int .i64 nu, .int .i64 ma], .agg #[.int .u8 k2, .int .i64 n2, .string s2], undef, .agg #[.int .u8 k, .int .i64 n, .string s, .int .u8 k', .int .i64 n', .string s', .int .i64 nu, .int .i64 ma], undef, undef, undef, undef, undef, undef, undef, undef, undef, undef, undef, undef, undef, undef, undef, undef, undef, undef, undef, undef, undef, undef, undef, undef, undef, undef, undef, undef, undef, undef, undef, undef, undef, undef, undef, undef, undef, undef, undef, undef, undef, undef, undef, undef, undef, undef, undef, undef, undef, undef, undef, undef, undef, undef, undef, undef, undef, undef, undef, undef, undef, undef, undef, undef, undef, undef, undef, undef, undef, undef, undef, undef, undef], []⟩ := by
      intro wx zv z7 d1 BB HSZ g8 z8 h8
      rw [hW]
      refine mix_each [5, 9, 10] (by decide) (by kernel_rfl) ?_
      intro i hi
      simp only [List.mem_cons, List.not_mem_nil, or_false] at hi
      rcases hi with rfl | rfl | rfl
      ·
        refine ⟨_, rfl, rfl, ?_⟩
        go_wp2_with (first | (at_make; refine Stop.un ?_) | (at_builtin; refine Stop.un ?_) | (with_reducible refine Stop.conv 40 9 ?_) | (with_reducible refine Stop.conv 9 40 ?_))
        refine (HLE.out _).mono ?_
        rintro e wq ⟨rfl, bq⟩
        go_wp2_with (first | (at_make; refine Stop.un ?_) | (at_builtin; refine Stop.un ?_) | (with_reducible refine Stop.conv 40 9 ?_) | (with_reducible refine Stop.conv 9 40 ?_))
        refine MixPost.mk (RX.ext bq (Hid.out HSZ)) ?_
        rw [← hW]
        exact H2_8 wq (zv.mono bq) (z7.mono bq) (d1.mono bq (Nat.le_refl _)) (BB.next bq) (Lib.hid (Nat.le_trans (Hid.out HSZ) (Below.size bq))) g8 (z8.mono bq) h8
      ·
        refine ⟨_, rfl, rfl, ?_⟩
        go_wp2_with (first | (at_make; refine Stop.un ?_) | (at_builtin; refine Stop.un ?_) | (with_reducible refine Stop.conv 40 9 ?_) | (with_reducible refine Stop.conv 9 40 ?_))
        have bq := (Below.refl wx.heap.size wx).alloc (Nat.le_refl _) (.cells #[.bool false, .bool false, .bool false] 34)
        refine MixPost.mk (RX.ext bq (Hid.out HSZ)) ?_
        rw [← hW]
        exact H1_89 _ (zv.mono bq) (z7.mono bq) (d1.mono bq (Nat.le_refl _)) (BB.next bq) (Lib.hid (Nat.le_trans (Hid.out HSZ) (Below.size bq))) g8 (z8.mono bq) h8 wx.heap.size (At.new wx #[.bool false, .bool false, .bool false] 34) (Hid.out HSZ) (by have := z8.lt; omega)
      ·
        refine ⟨_, rfl, rfl, ?_⟩
        go_wp2_with (first | (at_make; refine Stop.un ?_) | (at_builtin; refine Stop.un ?_) | (with_reducible refine Stop.conv 40 9 ?_) | (with_reducible refine Stop.conv 9 40 ?_))
        have bq := (Below.refl wx.heap.size wx).alloc (Nat.le_refl _) (.cells #[.bool false, .bool false, .bool false] 34)
        refine MixPost.mk (RX.ext bq (Hid.out HSZ)) ?_
        rw [← hW]
        exact H1_8a _ (zv.mono bq) (z7.mono bq) (d1.mono bq (Nat.le_refl _)) (BB.next bq) (Lib.hid (Nat.le_trans (Hid.out HSZ) (Below.size bq))) g8 (z8.mono bq) h8 wx.heap.size (At.new wx #[.bool false, .bool false, .bool false] 34) (Hid.out HSZ) (by have := z8.lt; omega)
    have H1_9 : ∀ (wx : World) (zv : At wx w.heap.size #[.int .u8 k2, .int .i64 n2, .string s2] 24) (z7 : At wx g7 #[.int .u8 k, .int .i64 n, .string s, .int .u8 k', .int .i64 n', .string s', .int .i64 nu, .int .i64 ma] 26) (d1 : Cs wx ao (vcells x)) (BB : Below w.heap.size w wx) (HSZ : Hid (w3.heap.size ≤ wx.heap.size)) (g9 : Nat) (z9 : At wx g9 #[.bool false, .bool false, .bool false] 34) (h9 : w3.heap.size ≤ g9), W 7 #[true, true, true, true, true, false, true, false, false, true, false, false, false, false] wx ⟨#[.slice ao m cap, .agg #[.int .u8 k2, .int .i64 n2, .string s2], undef, .pointer (some ⟨w.heap.size, 0, none⟩), .bool false, .bool true, .slice ao f cap, .pointer (some ⟨g7, 0, none⟩), undef, .pointer (some ⟨g9, 0, none⟩), undef, undef, undef, undef, undef, .bool true, .pointer (some ⟨w.heap.size, 2, none⟩), .string s2, .int .i64 (s2.size : Int), .bool (decide (1100 < (s2.size : Int))), undef, .slice ao m cap, .slice ao f cap, .slice ao f cap, .agg #[.int .u8 k, .int .i64 n, .string s, .int .u8 k', .int .i64 n', .string s', .int .i64 nu, .int .i64 ma], .agg #[.int .u8 k, .int .i64 n, .string s, .int .u8 k', .int .i64 n', .string s', .int .i64 nu, .int .i64 ma], .agg #[.int .u8 k2, .int .i64 n2, .string s2], .agg #[.bool ea, .bool eb, .bool ec], .agg #[.int .u8 k, .int .i64 n, .string s, .int .u8 k', .int .i64 n', .string s', .int .i64 nu, .int .i64 ma], .agg #[.int .u8 k2, .int .i64 n2, .string s2], undef, .agg #[.int .u8 k, .int .i64 n, .string s, .int .u8 k', .int .i64 n', .string s', .int .i64 nu, .int .i64 ma], undef, undef, undef, undef, undef, undef, undef, undef, undef, undef, undef, undef, undef, undef, undef, undef, undef, undef, undef, undef, undef, undef, undef, undef, undef, undef, undef, undef, undef, undef, undef, undef, undef, undef, undef, undef, undef, undef, undef, undef, undef, undef, undef, undef, undef, undef, undef, undef, undef, undef, undef, undef, undef, undef, undef, undef, undef, undef, undef, undef, undef, undef, undef, undef, undef, undef, undef, undef, undef, undef, undef, undef, undef], []⟩ := by
      intro wx zv z7 d1 BB HSZ g9 z9 h9
      rw [hW]
      refine mix_each [5, 8, 10] (by decide) (by kernel_rfl) ?_
      intro i hi
      simp only [List.mem_cons, List.not_mem_nil, or_false] at hi
      rcases hi with rfl | rfl | rfl
      ·
        refine ⟨_, rfl, rfl, ?_⟩
        go_wp2_with (first | (at_make; refine Stop.un ?_) | (at_builtin; refine Stop.un ?_) | (with_reducible refine Stop.conv 40 9 ?_) | (with_reducible refine Stop.conv 9 40 ?_))
        refine (HLE.out _).mono ?_
        rintro e wq ⟨rfl, bq⟩
        go_wp2_with (first | (at_make; refine Stop.un ?_) | (at_builtin; refine Stop.un ?_) | (with_reducible refine Stop.conv 40 9 ?_) | (with_reducible refine Stop.conv 9 40 ?_))
        refine MixPost.mk (RX.ext bq (Hid.out HSZ)) ?_
        rw [← hW]
        exact H2_9 wq (zv.mono bq) (z7.mono bq) (d1.mono bq (Nat.le_refl _)) (BB.next bq) (Lib.hid (Nat.le_trans (Hid.out HSZ) (Below.size bq))) g9 (z9.mono bq) h9
      ·
        refine ⟨_, rfl, rfl, ?_⟩
        go_wp2_with (first | (at_make; refine Stop.un ?_) | (at_builtin; refine Stop.un ?_) | (with_reducible refine Stop.conv 40 9 ?_) | (with_reducible refine Stop.conv 9 40 ?_))
        have bq := (Below.refl wx.heap.size wx).alloc (Nat.le_refl _) (.cells #[.bool false, .bool false, .bool false] 34)
        refine MixPost.mk (RX.ext bq (Hid.out HSZ)) ?_
        rw [← hW]
        exact H1_89 _ (zv.mono bq) (z7.mono bq) (d1.mono bq (Nat.le_refl _)) (BB.next bq) (Lib.hid (Nat.le_trans (Hid.out HSZ) (Below.size bq))) wx.heap.size (At.new wx #[.bool false, .bool false, .bool false] 34) (Hid.out HSZ) g9 (z9.mono bq) h9 (by have := z9.lt; omega)
      ·
        refine ⟨_, rfl, rfl, ?_⟩
        go_wp2_with (first | (at_make; refine Stop.un ?_) | (at_builtin; refine Stop.un ?_) | (with_reducible refine Stop.conv 40 9 ?_) | (with_reducible refine Stop.conv 9 40 ?_))
        have bq := (Below.refl wx.heap.size wx).alloc (Nat.le_refl _) (.cells #[.bool false, .bool false, .bool false] 34)
        refine MixPost.mk (RX.ext bq (Hid.out HSZ)) ?_
        rw [← hW]
        exact H1_9a _ (zv.mono bq) (z7.mono bq) (d1.mono bq (Nat.le_refl _)) (BB.next bq) (Lib.hid (Nat.le_trans (Hid.out HSZ) (Below.size bq))) g9 (z9.mono bq) h9 wx.heap.size (At.new wx #[.bool false, .bool false, .bool false] 34) (Hid.out HSZ) (by have := z9.lt; omega)
    have H1_a : ∀ (wx : World) (zv : At wx w.heap.size #[.int .u8 k2, .int .i64 n2, .string s2] 24) (z7 : At wx g7 #[.int .u8 k, .int .i64 n, .string s, .int .u8 k', .int .i64 n', .string s', .int .i64 nu, .int .i64 ma] 26) (d1 : Cs wx ao (vcells x)) (BB : Below w.heap.size w wx) (HSZ : Hid (w3.heap.size ≤ wx.heap.size)) (g10 : Nat) (z10 : At wx g10 #[.bool false, .bool false, .bool false] 34) (h10 : w3.heap.size ≤ g10), W 7 #[true, true, true, true, true, false, true, false, false, false, true, false, false, false] wx ⟨#[.slice ao m cap, .agg #[.int .u8 k2, .int .i64 n2, .string s2], undef, .pointer (some ⟨w.heap.size, 0, none⟩), .bool false, .bool true, .slice ao f cap, .pointer (some ⟨g7, 0, none⟩), undef, undef, .pointer (some ⟨g10, 0, none⟩), undef, undef, undef, undef, .bool true, .pointer (some ⟨w.heap.size, 2, none⟩), .string s2, .int .i64 (s2.size : Int), .bool (decide (1100 < (s2.size : Int))), undef, .slice ao m cap, .slice ao f cap, .slice ao f cap, .agg #[.int .u8 k, .int .i64 n, .string s, .int .u8 k', .int .i64 n', .string s', .int .i64 nu, .int .i64 ma], .agg #[.int .u8 k, .int .i64 n, .string s, .int .u8 k', .int .i64 n', .string s', .int .i64 nu, .int .i64 ma], .agg #[.int .u8 k2, .int .i64 n2, .string s2], .agg #[.bool ea, .bool eb, .bool ec], .agg #[.int .u8 k, .int .i64 n, .string s, .int .u8 k', .int .i64 n', .string s', .int .i64 nu, .int .i64 ma], .agg #[.int .u8 k2, .int .i64 n2, .string s2], undef, .agg #[.int .u8 k, .int .i64 n, .string s, .int .u8 k', .int .i64 n', .string s', .int .i64 nu, .int .i64 ma], undef, undef, undef, undef, undef, undef, undef, undef, undef, undef, undef, undef, undef, undef, undef, undef, undef, undef, undef, undef, undef, undef, undef, undef, undef, undef, undef, undef, undef, undef, undef, undef, undef, undef, undef, undef, undef, undef, undef, undef, undef, undef, undef, undef, undef, undef, undef, undef, undef, undef, undef, undef, undef, undef, undef, undef, undef, undef, undef, undef, undef, undef, undef, undef, undef, undef, undef, undef, undef, undef, undef, undef, undef], []⟩ := by
      intro wx zv z7 d1 BB HSZ g10 z10 h10
      rw [hW]
      refine mix_each [5, 8, 9] (by decide) (by kernel_rfl) ?_
      intro i hi
      simp only [List.mem_cons, List.not_mem_nil, or_false] at hi
      rcases hi with rfl | rfl | rfl
      ·
        refine ⟨_, rfl, rfl, ?_⟩
        go_wp2_with (first | (at_make; refine Stop.un ?_) | (at_builtin; refine Stop.un ?_) | (with_reducible refine Stop.conv 40 9 ?_) | (with_reducible refine Stop.conv 9 40 ?_))
        refine (HLE.out _).mono ?_
        rintro e wq ⟨rfl, bq⟩
        go_wp2_with (first | (at_make; refine Stop.un ?_) | (at_builtin; refine Stop.un ?_) | (with_reducible refine Stop.conv 40 9 ?_) | (with_reducible refine Stop.conv 9 40 ?_))
        refine MixPost.mk (RX.ext bq (Hid.out HSZ)) ?_
        rw [← hW]
        exact H2_a wq (zv.mono bq) (z7.mono bq) (d1.mono bq (Nat.le_refl _)) (BB.next bq) (Lib.hid (Nat.le_trans (Hid.out HSZ) (Below.size bq))) g10 (z10.mono bq) h10
      ·
        refine ⟨_, rfl, rfl, ?_⟩
        go_wp2_with (first | (at_make; refine Stop.un ?_) | (at_builtin; refine Stop.un ?_) | (with_reducible refine Stop.conv 40 9 ?_) | (with_reducible refine Stop.conv 9 40 ?_))
        have bq := (Below.refl wx.heap.size wx).alloc (Nat.le_refl _) (.cells #[.bool false, .bool false, .bool false] 34)
        refine MixPost.mk (RX.ext bq (Hid.out HSZ)) ?_
        rw [← hW]
        exact H1_8a _ (zv.mono bq) (z7.mono bq) (d1.mono bq (Nat.le_refl _)) (BB.next bq) (Lib.hid (Nat.le_trans (Hid.out HSZ) (Below.size bq))) wx.heap.size (At.new wx #[.bool false, .bool false, .bool false] 34) (Hid.out HSZ) g10 (z10.mono bq) h10 (by have := z10.lt; omega)
      ·
        refine ⟨_, rfl, rfl, ?_⟩
        go_wp2_with (first | (at_make; refine Stop.un ?_) | (at_builtin; refine Stop.un ?_) | (with_reducible refine Stop.conv 40 9 ?_) | (with_reducible refine Stop.conv 9 40 ?_))
        have bq := (Below.refl wx.heap.size wx).alloc (Nat.le_refl _) (.cells #[.bool false, .bool false, .bool false] 34)
        refine MixPost.mk (RX.ext bq (Hid.out HSZ)) ?_
        rw [← hW]
        exact H1_9a _ (zv.mono bq) (z7.mono bq) (d1.mono bq (Nat.le_refl _)) (BB.next bq) (Lib.hid (Nat.le_trans (Hid.out HSZ) (Below.size bq))) wx.heap.size (At.new wx #[.bool false, .bool false, .bool false] 34) (Hid.out HSZ) g10 (z10.mono bq) h10 (by have := z10.lt; omega)
    have H1_ : ∀ (wx : World) (zv : At wx w.heap.size #[.int .u8 k2, .int .i64 n2, .string s2] 24) (z7 : At wx g7 #[.int .u8 k, .int .i64 n, .string s, .int .u8 k', .int .i64 n', .string s', .int .i64 nu, .int .i64 ma] 26) (d1 : Cs wx ao (vcells x)) (BB : Below w.heap.size w wx) (HSZ : Hid (w3.heap.size ≤ wx.heap.size)), W 8 #[true, true, true, true, true, false, true, false, false, false, false, false, false, false] wx ⟨#[.slice ao m cap, .agg #[.int .u8 k2, .int .i64 n2, .string s2], undef, .pointer (some ⟨w.heap.size, 0, none⟩), .bool false, .bool true, .slice ao f cap, .pointer (some ⟨g7, 0, none⟩), undef, undef, undef, undef, undef, undef, undef, .bool true, .pointer (some ⟨w.heap.size, 2, none⟩), .string s2, .int .i64 (s2.size : Int), .bool (decide (1100 < (s2.size : Int))), undef, .slice ao m cap, .slice ao f cap, .slice ao f cap, .agg #[.int .u8 k, .int .i64 n, .string s, .int .u8 k', .int .i64 n', .string s', .int .i64 nu, .int .i64 ma], .agg #[.int .u8 k, .int .i64 n, .string s, .int .u8 k', .int .i64 n', .string s', .int .i64 nu, .int .i64 ma], .agg #[.int .u8 k2, .int .i64 n2, .string s2], .agg #[.bool ea, .bool eb, .bool ec], .agg #[.int .u8 k, .int .i64 n, .string s, .int .u8 k', .int .i64 n', .string s', .int .i64 nu, .int .i64 ma], .agg #[.int .u8 k2, .int .i64 n2, .string s2], undef, .agg #[.int .u8 k, .int .i64 n, .string s, .int .u8 k', .int .i64 n', .string s', .int .i64 nu, .int .i64 ma], undef, undef, undef, undef, undef, undef, undef, undef, undef, undef, undef, undef, undef, undef, undef, undef, undef, undef, undef, undef, undef, undef, undef, undef, undef, undef, undef, undef, undef, undef, undef, undef, undef, undef, undef, undef, undef, undef, undef, undef, undef, undef, undef, undef, undef, undef, undef, undef, undef, undef, undef, undef, undef, undef, undef, undef, undef, undef, undef, undef, undef, undef, undef, undef, undef, undef, undef, undef, undef, undef, undef, undef, undef], []⟩ := by
      intro wx zv z7 d1 BB HSZ
      rw [hW]
      refine mix_each [5, 8, 9, 10] (by decide) (by kernel_rfl) ?_
      intro i hi
      simp only [List.mem_cons, List.not_mem_nil, or_false] at hi
      rcases hi with rfl | rfl | rfl | rfl
      ·
        refine ⟨_, rfl, rfl, ?_⟩
        go_wp2_with (first | (at_make; refine Stop.un ?_) | (at_builtin; refine Stop.un ?_) | (with_reducible refine Stop.conv 40 9 ?_) | (with_reducible refine Stop.conv 9 40 ?_))
        refine (HLE.out _).mono ?_
        rintro e wq ⟨rfl, bq⟩
        go_wp2_with (first | (at_make; refine Stop.un ?_) | (at_builtin; refine Stop.un ?_) | (with_reducible refine Stop.conv 40 9 ?_) | (with_reducible refine Stop.conv 9 40 ?_))
        refine MixPost.mk (RX.ext bq (Hid.out HSZ)) ?_
        rw [← hW]
        exact H2_ wq (zv.mono bq) (z7.mono bq) (d1.mono bq (Nat.le_refl _)) (BB.next bq) (Lib.hid (Nat.le_trans (Hid.out HSZ) (Below.size bq)))
      ·
        refine ⟨_, rfl, rfl, ?_⟩
        go_wp2_with (first | (at_make; refine Stop.un ?_) | (at_builtin; refine Stop.un ?_) | (with_reducible refine Stop.conv 40 9 ?_) | (with_reducible refine Stop.conv 9 40 ?_))
        have bq := (Below.refl wx.heap.size wx).alloc (Nat.le_refl _) (.cells #[.bool false, .bool false, .bool false] 34)
        refine MixPost.mk (RX.ext bq (Hid.out HSZ)) ?_
        rw [← hW]
        exact H1_8 _ (zv.mono bq) (z7.mono bq) (d1.mono bq (Nat.le_refl _)) (BB.next bq) (Lib.hid (Nat.le_trans (Hid.out HSZ) (Below.size bq))) wx.heap.size (At.new wx #[.bool false, .bool false, .bool false] 34) (Hid.out HSZ)
      ·
        refine ⟨_, rfl, rfl, ?_⟩
        go_wp2_with (first | (at_make; refine Stop.un ?_) | (at_builtin; refine Stop.un ?_) | (with_reducible refine Stop.conv 40 9 ?_) | (with_reducible refine Stop.conv 9 40 ?_))
        have bq := (Below.refl wx.heap.size wx).alloc (Nat.le_refl _) (.cells #[.bool false, .bool false, .bool false] 34)
        refine MixPost.mk (RX.ext bq (Hid.out HSZ)) ?_
        rw [← hW]
        exact H1_9 _ (zv.mono bq) (z7.mono bq) (d1.mono bq (Nat.le_refl _)) (BB.next bq) (Lib.hid (Nat.le_trans (Hid.out HSZ) (Below.size bq))) wx.heap.size (At.new wx #[.bool false, .bool false, .bool false] 34) (Hid.out HSZ)
      ·
        refine ⟨_, rfl, rfl, ?_⟩
        go_wp2_with (first | (at_make; refine Stop.un ?_) | (at_builtin; refine Stop.un ?_) | (with_reducible refine Stop.conv 40 9 ?_) | (with_reducible refine Stop.conv 9 40 ?_))
        have bq := (Below.refl wx.heap.size wx).alloc (Nat.le_refl _) (.cells #[.bool false, .bool false, .bool false] 34)
        refine MixPost.mk (RX.ext bq (Hid.out HSZ)) ?_
        rw [← hW]
        exact H1_a _ (zv.mono bq) (z7.mono bq) (d1.mono bq (Nat.le_refl _)) (BB.next bq) (Lib.hid (Nat.le_trans (Hid.out HSZ) (Below.size bq))) wx.heap.size (At.new wx #[.bool false, .bool false, .bool false] 34) (Hid.out HSZ)
    have H0_89a : ∀ (wx : World) (zv : At wx w.heap.size #[.int .u8 k2, .int .i64 n2, .string s2] 24) (z7 : At wx g7 #[.int .u8 k, .int .i64 n, .string s, .int .u8 k', .int .i64 n', .string s', .int .i64 nu, .int .i64 ma] 26) (d1 : Cs wx ao (vcells x)) (BB : Below w.heap.size w wx) (HSZ : Hid (w3.heap.size ≤ wx.heap.size)) (g8 : Nat) (z8 : At wx g8 #[.bool false, .bool false, .bool false] 34) (h8 : w3.heap.size ≤ g8) (g9 : Nat) (z9 : At wx g9 #[.bool false, .bool false, .bool false] 34) (h9 : w3.heap.size ≤ g9) (g10 : Nat) (z10 : At wx g10 #[.bool false, .bool false, .bool false] 34) (h10 : w3.heap.size ≤ g10) (e8_9 : g8 ≠ g9) (e8_10 : g8 ≠ g10) (e9_10 : g9 ≠ g10), W 6 #[true, true, false, true, true, false, true, false, true, true, true, false, false, false] wx ⟨#[.slice ao m cap, .agg #[.int .u8 k2, .int .i64 n2, .string s2], undef, .pointer (some ⟨w.heap.size, 0, none⟩), .bool false, .bool true, .slice ao f cap, .pointer (some ⟨g7, 0, none⟩), .pointer (some ⟨g8, 0, none⟩), .pointer (some ⟨g9, 0, none⟩), .pointer (some ⟨g10, 0, none⟩), undef, undef, undef, undef, .bool true, .pointer (some ⟨w.heap.size, 2, none⟩), .string s2, .int .i64 (s2.size : Int), .bool (decide (1100 < (s2.size : Int))), undef, .slice ao m cap, .slice ao f cap, .slice ao f cap, .agg #[.int .u8 k, .int .i64 n, .string s, .int .u8 k', .int .i64 n', .string s', .int .i64 nu, .int .i64 ma], .agg #[.int .u8 k, .int .i64 n, .string s, .int .u8 k', .int .i64 n', .string s', .int .i64 nu, .int .i64 ma], .agg #[.int .u8 k2, .int .i64 n2, .string s2], undef, .agg #[.int .u8 k, .int .i64 n, .string s, .int .u8 k', .int .i64 n', .string s', .int .i64 nu, .int .i64 ma], .agg #[.int .u8 k2, .int .i64 n2, .string s2], undef, .agg #[.int .u8 k, .int .i64 n, .string s, .int .u8 k', .int .i64 n', .string s', .int .i64 nu, .int .i64 ma], undef, undef, undef, undef, undef, undef, undef, undef, undef, undef, undef, undef, undef, undef, undef, undef, undef, undef, undef, undef, undef, undef, undef, undef, undef, undef, undef, undef, undef, undef, undef, undef, undef, undef, undef, undef, undef, undef, undef, undef, undef, undef, undef, undef, undef, undef, undef, undef, undef, undef, undef, undef, undef, undef, undef, undef, undef, undef, undef, undef, undef, undef, undef, undef, undef, undef, undef, undef, undef, undef, undef, undef, undef], []⟩ := by
      intro wx zv z7 d1 BB HSZ g8 z8 h8 g9 z9 h9 g10 z10 h10 e8_9 e8_10 e9_10
      rw [hW]
      refine mix_each [2] (by decide) (by kernel_rfl) ?_
      intro i hi
      simp only [List.mem_cons, List.not_mem_nil, or_false] at hi
      subst hi
      ·
        refine ⟨_, rfl, rfl, ?_⟩
        go_wp2_with (first | (at_make; refine Stop.un ?_) | (at_builtin; refine Stop.un ?_) | (with_reducible refine Stop.conv 40 9 ?_) | (with_reducible refine Stop.conv 9 40 ?_))
        refine (HEQ.out _).mono ?_
        rintro e wq ⟨rfl, bq⟩
        go_wp2_with (first | (at_make; refine Stop.un ?_) | (at_builtin; refine Stop.un ?_) | (with_reducible refine Stop.conv 40 9 ?_) | (with_reducible refine Stop.conv 9 40 ?_))
        refine MixPost.mk (RX.ext bq (Hid.out HSZ)) ?_
        rw [← hW]
        exact H1_89a wq (zv.mono bq) (z7.mono bq) (d1.mono bq (Nat.le_refl _)) (BB.next bq) (Lib.hid (Nat.le_trans (Hid.out HSZ) (Below.size bq))) g8 (z8.mono bq) h8 g9 (z9.mono bq) h9 g10 (z10.mono bq) h10 e8_9 e8_10 e9_10
    have H0_89 : ∀ (wx : World) (zv : At wx w.heap.size #[.int .u8 k2, .int .i64 n2, .string s2] 24) (z7 : At wx g7 #[.int .u8 k, .int .i64 n, .string s, .int .u8 k', .int .i64 n', .string s', .int .i64 nu, .int .i64 ma] 26) (d1 : Cs wx ao (vcells x)) (BB : Below w.heap.size w wx) (HSZ : Hid (w3.heap.size ≤ wx.heap.size)) (g8 : Nat) (z8 : At wx g8 #[.bool false, .bool false, .bool false] 34) (h8 : w3.heap.size ≤ g8) (g9 : Nat) (z9 : At wx g9 #[.bool false, .bool false, .bool false] 34) (h9 : w3.heap.size ≤ g9) (e8_9 : g8 ≠ g9), W 7 #[true, true, false, true, true, false, true, false, true, true, false, false, false, false] wx ⟨#[.slice ao m cap, .agg #[.int .u8 k2, .int .i64 n2, .string s2], undef, .pointer (some ⟨w.heap.size, 0, none⟩), .bool false, .bool true, .slice ao f cap, .pointer (some ⟨g7, 0, none⟩), .pointer (some ⟨g8, 0, none⟩), .pointer (some ⟨g9, 0, none⟩), undef, undef, undef, undef, undef, .bool true, .pointer (some ⟨w.heap.size, 2, none⟩), .string s2, .int .i64 (s2.size : Int), .bool (decide (1100 < (s2.size : Int))), undef, .slice ao m cap, .slice ao f cap, .slice ao f cap, .agg #[.int .u8 k, .int .i64 n, .string s, .int .u8 k', .int .i64 n', .string s', .int .i64 nu, .int .i64 ma], .agg #[.int .u8 k, .int .i64 n, .string s, .int .u8 k', .int .i64 n', .string s', .int .i64 nu, .int .i64 ma], .agg #[.int .u8 k2, .int .i64 n2, .string s2], undef, .agg #[.int .u8 k, .int .i64 n, .string s, .int .u8 k', .int .i64 n', .string s', .int .i64 nu, .int .i64 ma], .agg #[.int .u8 k2, .int .i64 n2, .string s2], undef, .agg #[.int .u8 k, .int .i64 n, .string s, .int .u8 k', .int .i64 n', .string s', .int .i64 nu, .int .i64 ma], undef, undef, undef, undef, undef, undef, undef, undef, undef, undef, undef, undef, undef, undef, undef, undef, undef, undef, undef, undef, undef, undef, undef, undef, undef, undef, undef, undef, undef, undef, undef, undef, undef, undef, undef, undef, undef, undef, undef, undef, undef, undef, undef, undef, undef, undef, undef, undef, undef, undef, undef, undef, undef, undef, undef, undef, undef, undef, undef, undef, undef, undef, undef, undef, undef, undef, undef, undef, undef, undef, undef, undef, undef], []⟩ := by
      intro wx zv z7 d1 BB HSZ g8 z8 h8 g9 z9 h9 e8_9
      rw [hW]
      refine mix_each [2, 10] (by decide) (by kernel_rfl) ?_
      intro i hi
      simp only [List.mem_cons, List.not_mem_nil, or_false] at hi
      rcases hi with rfl | rfl
      ·
        refine ⟨_, rfl, rfl, ?_⟩
        go_wp2_with (first | (at_make; refine Stop.un ?_) | (at_builtin; refine Stop.un ?_) | (with_reducible refine Stop.conv 40 9 ?_) | (with_reducible refine Stop.conv 9 40 ?_))
        refine (HEQ.out _).mono ?_
        rintro e wq ⟨rfl, bq⟩
        go_wp2_with (first | (at_make; refine Stop.un ?_) | (at_builtin; refine Stop.un ?_) | (with_reducible refine Stop.conv 40 9 ?_) | (with_reducible refine Stop.conv 9 40 ?_))
        refine MixPost.mk (RX.ext bq (Hid.out HSZ)) ?_
        rw [← hW]
        exact H1_89 wq (zv.mono bq) (z7.mono bq) (d1.mono bq (Nat.le_refl _)) (BB.next bq) (Lib.hid (Nat.le_trans (Hid.out HSZ) (Below.size bq))) g8 (z8.mono bq) h8 g9 (z9.mono bq) h9 e8_9
      ·
        refine ⟨_, rfl, rfl, ?_⟩
        go_wp2_with (first | (at_make; refine Stop.un ?_) | (at_builtin; refine Stop.un ?_) | (with_reducible refine Stop.conv 40 9 ?_) | (with_reducible refine Stop.conv 9 40 ?_))
        have bq := (Below.refl wx.heap.size wx).alloc (Nat.le_refl _) (.cells #[.bool false, .bool false, .bool false] 34)
        refine MixPost.mk (RX.ext bq (Hid.out HSZ)) ?_
        rw [← hW]
        exact H0_89a _ (zv.mono bq) (z7.mono bq) (d1.mono bq (Nat.le_refl _)) (BB.next bq) (Lib.hid (Nat.le_trans (Hid.out HSZ) (Below.size bq))) g8 (z8.mono bq) h8 g9 (z9.mono bq) h9 wx.heap.size (At.new wx #[.bool false, .bool false, .bool false] 34) (Hid.out HSZ) e8_9 (by have := z8.lt; omega) (by have := z9.lt; omega)
    have H0_8a : ∀ (wx : World) (zv : At wx w.heap.size #[.int .u8 k2, .int .i64 n2, .string s2] 24) (z7 : At wx g7 #[.int .u8 k, .int .i64 n, .string s, .int .u8 k', .int .i64 n', .string s', .int .i64 nu, .int .i64 ma] 26) (d1 : Cs wx ao (vcells x)) (BB : Below w.heap.size w wx) (HSZ : Hid (w3.heap.size ≤ wx.heap.size)) (g8 : Nat) (z8 : At wx g8 #[.bool false, .bool false, .bool false] 34) (h8 : w3.heap.size ≤ g8) (g10 : Nat) (z10 : At wx g10 #[.bool false, .bool false, .bool false] 34) (h10 : w3.heap.size ≤ g10) (e8_10 : g8 ≠ g10), W 7 #[true, true, false, true, true, false, true, false, true, false, true, false, false, false] wx ⟨#[.slice ao m cap, .agg #[.int .u8 k2, .int .i64 n2, .string s2], undef, .pointer (some ⟨w.heap.size, 0, none⟩), .bool false, .bool true, .slice ao f cap, .pointer (some ⟨g7, 0, none⟩), .pointer (some ⟨g8, 0, none⟩), undef, .pointer (some ⟨g10, 0, none⟩), undef, undef, undef, undef, .bool true, .pointer (some ⟨w.heap.size, 2, none⟩), .string s2, .int .i64 (s2.size : Int), .bool (decide (1100 < (s2.size : Int))), undef, .slice ao m cap, .slice ao f cap, .slice ao f cap, .agg #[.int .u8 k, .int .i64 n, .string s, .int .u8 k', .int .i64 n', .string s', .int .i64 nu, .int .i64 ma], .agg #[.int .u8 k, .int .i64 n, .string s, .int .u8 k', .int .i64 n', .string s', .int .i64 nu, .int .i64 ma], .agg #[.int .u8 k2, .int .i64 n2, .string s2], undef, .agg #[.int .u8 k, .int .i64 n, .string s, .int .u8 k', .int .i64 n', .string s', .int .i64 nu, .int .i64 ma], .agg #[.int .u8 k2, .int .i64 n2, .string s2], undef, .agg #[.int .u8 k, .int .i64 n, .string s, .int .u8 k', .int .i64 n', .string s', .int .i64 nu, .int .i64 ma], undef, undef, undef, undef, undef, undef, undef, undef, undef, undef, undef, undef, undef, undef, undef, undef, undef, undef, undef, undef, undef, undef, undef, undef, undef, undef, undef, undef, undef, undef, undef, undef, undef, undef, undef, undef, undef, undef, undef, undef, undef, undef, undef, undef, undef, undef, undef, undef, undef, undef, undef, undef, undef, undef, undef, undef, undef, undef, undef, undef, undef, undef, undef, undef, undef, undef, undef, undef, undef, undef, undef, undef, undef], []⟩ := by
      intro wx zv z7 d1 BB HSZ g8 z8 h8 g10 z10 h10 e8_10
      rw [hW]
      refine mix_each [2, 9] (by decide) (by kernel_rfl) ?_
      intro i hi
      simp only [List.mem_cons, List.not_mem_nil, or_false] at hi
      rcases hi with rfl | rfl
      ·
        refine ⟨_, rfl, rfl, ?_⟩
        go_wp2_with (first | (at_make; refine Stop.un ?_) | (at_builtin; refine Stop.un ?_) | (with_reducible refine Stop.conv 40 9 ?_) | (with_reducible refine Stop.conv 9 40 ?_))
        refine (HEQ.out _).mono ?_
        rintro e wq ⟨rfl, bq⟩
        go_wp2_with (first | (at_make; refine Stop.un ?_) | (at_builtin; refine Stop.un ?_) | (with_reducible refine Stop.conv 40 9 ?_) | (with_reducible refine Stop.conv 9 40 ?_))
        refine MixPost.mk (RX.ext bq (Hid.out HSZ)) ?_
        rw [← hW]
        exact H1_8a wq (zv.mono bq) (z7.mono bq) (d1.mono bq (Nat.le_refl _)) (BB.next bq) (Lib.hid (Nat.le_trans (Hid.out HSZ) (Below.size bq))) g8 (z8.mono bq) h8 g10 (z10.mono bq) h10 e8_10
      ·
        refine ⟨_, rfl, rfl, ?_⟩
        go_wp2_with (first | (at_make; refine Stop.un ?_) | (at_builtin; refine Stop.un ?_) | (with_reducible refine Stop.conv 40 9 ?_) | (with_reducible refine Stop.conv 9 40 ?_))
        have bq := (Below.refl wx.heap.size wx).alloc (Nat.le_refl _) (.cells #[.bool false, .bool false, .bool false] 34)
        refine MixPost.mk (RX.ext bq (Hid.out HSZ)) ?_
        rw [← hW]
        exact H0_89a _ (zv.mono bq) (z7.mono bq) (d1.mono bq (Nat.le_refl _)) (BB.next bq) (Lib.hid (Nat.le_trans (Hid.out HSZ) (Below.size bq))) g8 (z8.mono bq) h8 wx.heap.size (At.new wx #[.bool false, .bool false, .bool false] 34) (Hid.out HSZ) g10 (z10.mono bq) h10 (by have := z8.lt; omega) e8_10 (by have := z10.lt; omega)
    have H0_9a : ∀ (wx : World) (zv : At wx w.heap.size #[.int .u8 k2, .int .i64 n2, .string s2] 24) (z7 : At wx g7 #[.int .u8 k, .int .i64 n, .string s, .int .u8 k', .int .i64 n', .string s', .int .i64 nu, .int .i64 ma] 26) (d1 : Cs wx ao (vcells x)) (BB : Below w.heap.size w wx) (HSZ : Hid (w3.heap.size ≤ wx.heap.size)) (g9 : Nat) (z9 : At wx g9 #[.bool false, .bool false, .bool false] 34) (h9 : w3.heap.size ≤ g9) (g10 : Nat) (z10 : At wx g10 #[.bool false, .bool false, .bool false] 34) (h10 : w3.heap.size ≤ g10) (e9_10 : g9 ≠ g10), W 7 #[true, true, false, true, true, false, true, false, false, true, true, false, false, false] wx ⟨#[.slice ao m cap, .agg #[.int .u8 k2, .int .i64 n2, .string s2], undef, .pointer (some ⟨w.heap.size, 0, none⟩), .bool false, .bool true, .slice ao f cap, .pointer (some ⟨g7, 0, none⟩), undef, .pointer (some ⟨g9, 0, none⟩), .pointer (some ⟨g10, 0, none⟩), undef, undef, undef, undef, .bool true, .pointer (some ⟨w.heap.size, 2, none⟩), .string s2, .int .i64 (s2.size : Int), .bool (decide (1100 < (s2.size : Int))), undef, .slice ao m cap, .slice ao f cap, .slice ao f cap, .agg #[.int .u8 k, .int .i64 n, .string s, .int .u8 k', .int .i64 n', .string s', .int .i64 nu, .int .i64 ma], .agg #[.int .u8 k, .int .i64 n, .string s, .int .u8 k', .int .i64 n', .string s', .int .i64 nu, .int .i64 ma], .agg #[.int .u8 k2, .int .i64 n2, .string s2], undef, .agg #[.int .u8 k, .int .i64 n, .string s, .int .u8 k', .int .i64 n', .string s', .int .i64 nu, .int .i64 ma], .agg #[.int .u8 k2, .int .i64 n2, .string s2], undef, .agg #[.int .u8 k, .int .i64 n, .string s, .int .u8 k', .int .i64 n', .string s', .int .i64 nu, .int .i64 ma], undef, undef, undef, undef, undef, undef, undef, undef, undef, undef, undef, undef, undef, undef, undef, undef, undef, undef, undef, undef, undef, undef, undef, undef, undef, undef, undef, undef, undef, undef, undef, undef, undef, undef, undef, undef, undef, undef, undef, undef, undef, undef, undef, undef, undef, undef, undef, undef, undef, undef, undef, undef, undef, undef, undef, undef, undef, undef, undef, undef, undef, undef, undef, undef, undef, undef, undef, undef, undef, undef, undef, undef, undef], []⟩ := by
      intro wx zv z7 d1 BB HSZ g9 z9 h9 g10 z10 h10 e9_10
      rw [hW]
      refine mix_each [2, 8] (by decide) (by kernel_rfl) ?_
      intro i hi
      simp only [List.mem_cons, List.not_mem_nil, or_false] at hi
      rcases hi with rfl | rfl
      ·
        refine ⟨_, rfl, rfl, ?_⟩
        go_wp2_with (first | (at_make; refine Stop.un ?_) | (at_builtin; refine Stop.un ?_) | (with_reducible refine Stop.conv 40 9 ?_) | (with_reducible refine Stop.conv 9 40 ?_))
        refine (HEQ.out _).mono ?_
        rintro e wq ⟨rfl, bq⟩
        go_wp2_with (first | (at_make; refine Stop.un ?_) | (at_builtin; refine Stop.un ?_) | (with_reducible refine Stop.conv 40 9 ?_) | (with_reducible refine Stop.conv 9 40 ?_))
        refine MixPost.mk (RX.ext bq (Hid.out HSZ)) ?_
        rw [← hW]
        exact H1_9a wq (zv.mono bq) (z7.mono bq) (d1.mono bq (Nat.le_refl _)) (BB.next bq) (Lib.hid (Nat.le_trans (Hid.out HSZ) (Below.size bq))) g9 (z9.mono bq) h9 g10 (z10.mono bq) h10 e9_10
      ·
        refine ⟨_, rfl, rfl, ?_⟩
        go_wp2_with (first | (at_make; refine Stop.un ?_) | (at_builtin; refine Stop.un ?_) | (with_reducible refine Stop.conv 40 9 ?_) | (with_reducible refine Stop.conv 9 40 ?_))
        have bq := (Below.refl wx.heap.size wx).alloc (Nat.le_refl _) (.cells #[.bool false, .bool false, .bool false] 34)
        refine MixPost.mk (RX.ext bq (Hid.out HSZ)) ?_
        rw [← hW]
        exact H0_89a _ (zv.mono bq) (z7.mono bq) (d1.mono bq (Nat.le_refl _)) (BB.next bq) (Lib.hid (Nat.le_trans (Hid.out HSZ) (Below.size bq))) wx.heap.size (At.new wx #[.bool false, .bool false, .bool false] 34) (Hid.out HSZ) g9 (z9.mono bq) h9 g10 (z10.mono bq) h10 (by have := z9.lt; omega) (by have := z10.lt; omega) e9_10
    have H0_8 : ∀ (wx : World) (zv : At wx w.heap.size #[.int .u8 k2, .int .i64 n2, .string s2] 24) (z7 : At wx g7 #[.int .u8 k, .int .i64 n, .string s, .int .u8 k', .int .i64 n', .string s', .int .i64 nu, .int .i64 ma] 26) (d1 : Cs wx ao (vcells x)) (BB : Below w.heap.size w wx) (HSZ : Hid (w3.heap.size ≤ wx.heap.size)) (g8 : Nat) (z8 : At wx g8 #[.bool false, .bool false, .bool false] 34) (h8 : w3.heap.size ≤ g8), W 8 #[true, true, false, true, true, false, true, false, true, false, false, false, false, false] wx ⟨#[.slice ao m cap, .agg #[.int .u8 k2, .int .i64 n2, .string s2], undef, .pointer (some ⟨w.heap.size, 0, none⟩), .bool false, .bool true, .slice ao f cap, .pointer (some ⟨g7, 0, none⟩), .pointer (some ⟨g8, 0, none⟩), undef, undef, undef, undef, undef, undef, .bool true, .pointer (some ⟨w.heap.size, 2, none⟩), .string s2, .int .i64 (s2.size : Int), .bool (decide (1100 < (s2.size : Int))), undef, .slice ao m cap, .slice ao f cap, .slice ao f cap, .agg #[.int .u8 k, .int .i64 n, .string s, .int .u8 k', .int .i64 n', .string s', .int .i64 nu, .int .i64 ma], .agg #[.int .u8 k, .int .i64 n, .string s, .int .u8 k', .int .i64 n', .string s', .int .i64 nu, .int .i64 ma], .agg #[.int .u8 k2, .int .i64 n2, .string s2], undef, .agg #[.int .u8 k, .int .i64 n, .string s, .int .u8 k', .int .i64 n', .string s', .int .i64 nu, .int .i64 ma], .agg #[.int .u8 k2, .int .i64 n2, .string s2], undef, .agg #[.int .u8 k, .int .i64 n, .string s, .int .u8 k', .int .i64 n', .string s', .int .i64 nu, .int .i64 ma], undef, undef, undef, undef, undef, undef, undef, undef, undef, undef, undef, undef, undef, undef, undef, undef, undef, undef, undef, undef, undef, undef, undef, undef, undef, undef, undef, undef, undef, undef, undef, undef, undef, undef, undef, undef, undef, undef, undef, undef, undef, undef, undef, undef, undef, undef, undef, undef, undef, undef, undef, undef, undef, undef, undef, undef, undef, undef, undef, undef, undef, undef, undef, undef, undef, undef, undef, undef, undef, undef, undef, undef, undef], []⟩ := by
      intro wx zv z7 d1 BB HSZ g8 z8 h8
      rw [hW]
      refine mix_each [2, 9, 10] (by decide) (by kernel_rfl) ?_
      intro i hi
      simp only [List.mem_cons, List.not_mem_nil, or_false] at hi
      rcases hi with rfl | rfl | rfl
      ·
        refine ⟨_, rfl, rfl, ?_⟩
        go_wp2_with (first | (at_make; refine Stop.un ?_) | (at_builtin; refine Stop.un ?_) | (with_reducible refine Stop.conv 40 9 ?_) | (with_reducible refine Stop.conv 9 40 ?_))
        refine (HEQ.out _).mono ?_
        rintro e wq ⟨rfl, bq⟩
        go_wp2_with (first | (at_make; refine Stop.un ?_) | (at_builtin; refine Stop.un ?_) | (with_reducible refine Stop.conv 40 9 ?_) | (with_reducible refine Stop.conv 9 40 ?_))
        refine MixPost.mk (RX.ext bq (Hid.out HSZ)) ?_
        rw [← hW]
        exact H1_8 wq (zv.mono bq) (z7.mono bq) (d1.mono bq (Nat.le_refl _)) (BB.next bq) (Lib.hid (Nat.le_trans (Hid.out HSZ) (Below.size bq))) g8 (z8.mono bq) h8
      ·
        refine ⟨_, rfl, rfl, ?_⟩
        go_wp2_with (first | (at_make; refine Stop.un ?_) | (at_builtin; refine Stop.un ?_) | (with_reducible refine Stop.conv 40 9 ?_) | (with_reducible refine Stop.conv 9 40 ?_))
        have bq := (Below.refl wx.heap.size wx).alloc (Nat.le_refl _) (.cells #[.bool false, .bool false, .bool false] 34)
        refine MixPost.mk (RX.ext bq (Hid.out HSZ)) ?_
        rw [← hW]
        exact H0_89 _ (zv.mono bq) (z7.mono bq) (d1.mono bq (Nat.le_refl _)) (BB.next bq) (Lib.hid (Nat.le_trans (Hid.out HSZ) (Below.size bq))) g8 (z8.mono bq) h8 wx.heap.size (At.new wx #[.bool false, .bool false, .bool false] 34) (Hid.out HSZ) (by have := z8.lt; omega)
      ·
        refine ⟨_, rfl, rfl, ?_⟩
        go_wp2_with (first | (at_make; refine Stop.un ?_) | (at_builtin; refine Stop.un ?_) | (with_reducible refine Stop.conv 40 9 ?_) | (with_reducible refine Stop.conv 9 40 ?_))
        have bq := (Below.refl wx.heap.size wx).alloc (Nat.le_refl _) (.cells #[.bool false, .bool false, .bool false] 34)
        refine MixPost.mk (RX.ext bq (Hid.out HSZ)) ?_
        rw [← hW]
        exact H0_8a _ (zv.mono bq) (z7.mono bq) (d1.mono bq (Nat.le_refl _)) (BB.next bq) (Lib.hid (Nat.le_trans (Hid.out HSZ) (Below.size bq))) g8 (z8.mono bq) h8 wx.heap.size (At.new wx #[.bool false, .bool false, .bool false] 34) (Hid.out HSZ) (by have := z8.lt; omega)
    have H0_9 : ∀ (wx : World) (zv : At wx w.heap.size #[.int .u8 k2, .int .i64 n2, .string s2] 24) (z7 : At wx g7 #[.int .u8 k, .int .i64 n, .string s, .int .u8 k', .int .i64 n', .string s', .int .i64 nu, .int .i64 ma] 26) (d1 : Cs wx ao (vcells x)) (BB : Below w.heap.size w wx) (HSZ : Hid (w3.heap.size ≤ wx.heap.size)) (g9 : Nat) (z9 : At wx g9 #[.bool false, .bool false, .bool false] 34) (h9 : w3.heap.size ≤ g9), W 8 #[true, true, false, true, true, false, true, false, false, true, false, false, false, false] wx ⟨#[.slice ao m cap, .agg #[.int .u8 k2, .int .i64 n2, .string s2], undef, .pointer (some ⟨w.heap.size, 0, none⟩), .bool false, .bool true, .slice ao f cap, .pointer (some ⟨g7, 0, none⟩), undef, .pointer (some ⟨g9, 0, none⟩), undef, undef, undef, undef, undef, .bool true, .pointer (some ⟨w.heap.size, 2, none⟩), .string s2, .int .i64 (s2.size : Int), .bool (decide (1100 < (s2.size : Int))), undef, .slice ao m cap, .slice ao f cap, .slice ao f cap, .agg #[.int .u8 k, .int .i64 n, .string s, .int .u8 k', .int .i64 n', .string s', .int .i64 nu, .int .i64 ma], .agg #[.int .u8 k, .int .i64 n, .string s, .int .u8 k', .int .i64 n', .string s', .int .i64 nu, .int .i64 ma], .agg #[.int .u8 k2, .int .i64 n2, .string s2], undef, .agg #[.int .u8 k, .int .i64 n, .string s, .int .u8 k', .int .i64 n', .string s', .int .i64 nu, .int .i64 ma], .agg #[.int .u8 k2, .int .i64 n2, .string s2], undef, .agg #[.int .u8 k, .int .i64 n, .string s, .int .u8 k', .int .i64 n', .string s', .int .i64 nu, .int .i64 ma], undef, undef, undef, undef, undef, undef, undef, undef, undef, undef, undef, undef, undef, undef, undef, undef, undef, undef, undef, undef, undef, undef, undef, undef, undef, undef, undef, undef, undef, undef, undef, undef, undef, undef, undef, undef, undef, undef, undef, undef, undef, undef, undef, undef, undef, undef, undef, undef, undef, undef, undef, undef, undef, undef, undef, undef, undef, undef, undef, undef, undef, undef, undef, undef, undef, undef, undef, undef, undef, undef, undef, undef, undef], []⟩ := by
      intro wx zv z7 d1 BB HSZ g9 z9 h9
      rw [hW]
      refine mix_each [2, 8, 10] (by decide) (by kernel_rfl) ?_
      intro i hi
      simp only [List.mem_cons, List.not_mem_nil, or_false] at hi
      rcases hi with rfl | rfl | rfl
      ·
        refine ⟨_, rfl, rfl, ?_⟩
        go_wp2_with (first | (at_make; refine Stop.un ?_) | (at_builtin; refine Stop.un ?_) | (with_reducible refine Stop.conv 40 9 ?_) | (with_reducible refine Stop.conv 9 40 ?_))
        refine (HEQ.out _).mono ?_
        rintro e wq ⟨rfl, bq⟩
        go_wp2_with (first | (at_make; refine Stop.un ?_) | (at_builtin; refine Stop.un ?_) | (with_reducible refine Stop.conv 40 9 ?_) | (with_reducible refine Stop.conv 9 40 ?_))
        refine MixPost.mk (RX.ext bq (Hid.out HSZ)) ?_
        rw [← hW]
        exact H1_9 wq (zv.mono bq) (z7.mono bq) (d1.mono bq (Nat.le_refl _)) (BB.next bq) (Lib.hid (Nat.le_trans (Hid.out HSZ) (Below.size bq))) g9 (z9.mono bq) h9
      ·
        refine ⟨_, rfl, rfl, ?_⟩
        go_wp2_with (first | (at_make; refine Stop.un ?_) | (at_builtin; refine Stop.un ?_) | (with_reducible refine Stop.conv 40 9 ?_) | (with_reducible refine Stop.conv 9 40 ?_))
        have bq := (Below.refl wx.heap.size wx).alloc (Nat.le_refl _) (.cells #[.bool false, .bool false, .bool false] 34)
        refine MixPost.mk (RX.ext bq (Hid.out HSZ)) ?_
        rw [← hW]
        exact H0_89 _ (zv.mono bq) (z7.mono bq) (d1.mono bq (Nat.le_refl _)) (BB.next bq) (Lib.hid (Nat.le_trans (Hid.out HSZ) (Below.size bq))) wx.heap.size (At.new wx #[.bool false, .bool false, .bool false] 34) (Hid.out HSZ) g9 (z9.mono bq) h9 (by have := z9.lt; omega)
      ·
        refine ⟨_, rfl, rfl, ?_⟩
        go_wp2_with (first | (at_make; refine Stop.un ?_) | (at_builtin; refine Stop.un ?_) | (with_reducible refine Stop.conv 40 9 ?_) | (with_reducible refine Stop.conv 9 40 ?_))
        have bq := (Below.refl wx.heap.size wx).alloc (Nat.le_refl _) (.cells #[.bool false, .bool false, .bool false] 34)
        refine MixPost.mk (RX.ext bq (Hid.out HSZ)) ?_
        rw [← hW]
        exact H0_9a _ (zv.mono bq) (z7.mono bq) (d1.mono bq (Nat.le_refl _)) (BB.next bq) (Lib.hid (Nat.le_trans (Hid.out HSZ) (Below.size bq))) g9 (z9.mono bq) h9 wx.heap.size (At.new wx #[.bool false, .bool false, .bool false] 34) (Hid.out HSZ) (by have := z9.lt; omega)
    have H0_a : ∀ (wx : World) (zv : At wx w.heap.size #[.int .u8 k2, .int .i64 n2, .string s2] 24) (z7 : At wx g7 #[.int .u8 k, .int .i64 n, .string s, .int .u8 k', .int .i64 n', .string s', .int .i64 nu, .int .i64 ma] 26) (d1 : Cs wx ao (vcells x)) (BB : Below w.heap.size w wx) (HSZ : Hid (w3.heap.size ≤ wx.heap.size)) (g10 : Nat) (z10 : At wx g10 #[.bool false, .bool false, .bool false] 34) (h10 : w3.heap.size ≤ g10), W 8 #[true, true, false, true, true, false, true, false, false, false, true, false, false, false] wx ⟨#[.slice ao m cap, .agg #[.int .u8 k2, .int .i64 n2, .string s2], undef, .pointer (some ⟨w.heap.size, 0, none⟩), .bool false, .bool true, .slice ao f cap, .pointer (some ⟨g7, 0, none⟩), undef, undef, .pointer (some ⟨g10, 0, none⟩), undef, undef, undef, undef, .bool true, .pointer (some ⟨w.heap.size, 2, none⟩), .string s2, .int .i64 (s2.size : Int), .bool (decide (1100 < (s2.size : Int))), undef, .slice ao m cap, .slice ao f cap, .slice ao f cap, .agg #[.int .u8 k, .int .i64 n, .string s, .int .u8 k', .int .i64 n', .string s', .int .i64 nu, .int .i64 ma], .agg #[.int .u8 k, .int .i64 n, .string s, .int .u8 k', .int .i64 n', .string s', .int .i64 nu, .int .i64 ma], .agg #[.int .u8 k2, .int .i64 n2, .string s2], undef, .agg #[.int .u8 k, .int .i64 n, .string s, .int .u8 k', .int .i64 n', .string s', .int .i64 nu, .int .i64 ma], .agg #[.int .u8 k2, .int .i64 n2, .string s2], undef, .agg #[.int .u8 k, .int .i64 n, .string s, .int .u8 k', .int .i64 n', .string s', .int .i64 nu, .int .i64 ma], undef, undef, undef, undef, undef, undef, undef, undef, undef, undef, undef, undef, undef, undef, undef, undef, undef, undef, undef, undef, undef, undef, undef, undef, undef, undef, undef, undef, undef, undef, undef, undef, undef, undef, undef, undef, undef, undef, undef, undef, undef, undef, undef, undef, undef, undef, undef, undef, undef, undef, undef, undef, undef, undef, undef, undef, undef, undef, undef, undef, undef, undef, undef, undef, undef, undef, undef, undef, undef, undef, undef, undef, undef], []⟩ := by
      intro wx zv z7 d1 BB HSZ g10 z10 h10
      rw [hW]
      refine mix_each [2, 8, 9] (by decide) (by kernel_rfl) ?_
      intro i hi
      simp only [List.mem_cons, List.not_mem_nil, or_false] at hi
      rcases hi with rfl | rfl | rfl
      ·
        refine ⟨_, rfl, rfl, ?_⟩
        go_wp2_with (first | (at_make; refine Stop.un ?_) | (at_builtin; refine Stop.un ?_) | (with_reducible refine Stop.conv 40 9 ?_) | (with_reducible refine Stop.conv 9 40 ?_))
        refine (HEQ.out _).mono ?_
        rintro e wq ⟨rfl, bq⟩
        go_wp2_with (first | (at_make; refine Stop.un ?_) | (at_builtin; refine Stop.un ?_) | (with_reducible refine Stop.conv 40 9 ?_) | (with_reducible refine Stop.conv 9 40 ?_))
        refine MixPost.mk (RX.ext bq (Hid.out HSZ)) ?_
        rw [← hW]
        exact H1_a wq (zv.mono bq) (z7.mono bq) (d1.mono bq (Nat.le_refl _)) (BB.next bq) (Lib.hid (Nat.le_trans (Hid.out HSZ) (Below.size bq))) g10 (z10.mono bq) h10
      ·
        refine ⟨_, rfl, rfl, ?_⟩
        go_wp2_with (first | (at_make; refine Stop.un ?_) | (at_builtin; refine Stop.un ?_) | (with_reducible refine Stop.conv 40 9 ?_) | (with_reducible refine Stop.conv 9 40 ?_))
        have bq := (Below.refl wx.heap.size wx).alloc (Nat.le_refl _) (.cells #[.bool false, .bool false, .bool false] 34)
        refine MixPost.mk (RX.ext bq (Hid.out HSZ)) ?_
        rw [← hW]
        exact H0_8a _ (zv.mono bq) (z7.mono bq) (d1.mono bq (Nat.le_refl _)) (BB.next bq) (Lib.hid (Nat.le_trans (Hid.out HSZ) (Below.size bq))) wx.heap.size (At.new wx #[.bool false, .bool false, .bool false] 34) (Hid.out HSZ) g10 (z10.mono bq) h10 (by have := z10.lt; omega)
      ·
        refine ⟨_, rfl, rfl, ?_⟩
        go_wp2_with (first | (at_make; refine Stop.un ?_) | (at_builtin; refine Stop.un ?_) | (with_reducible refine Stop.conv 40 9 ?_) | (with_reducible refine Stop.conv 9 40 ?_))
        have bq := (Below.refl wx.heap.size wx).alloc (Nat.le_refl _) (.cells #[.bool false, .bool false, .bool false] 34)
        refine MixPost.mk (RX.ext bq (Hid.out HSZ)) ?_
        rw [← hW]
        exact H0_9a _ (zv.mono bq) (z7.mono bq) (d1.mono bq (Nat.le_refl _)) (BB.next bq) (Lib.hid (Nat.le_trans (Hid.out HSZ) (Below.size bq))) wx.heap.size (At.new wx #[.bool false, .bool false, .bool false] 34) (Hid.out HSZ) g10 (z10.mono bq) h10 (by have := z10.lt; omega)
    have H0_ : ∀ (wx : World) (zv : At wx w.heap.size #[.int .u8 k2, .int .i64 n2, .string s2] 24) (z7 : At wx g7 #[.int .u8 k, .int .i64 n, .string s, .int .u8 k', .int .i64 n', .string s', .int .i64 nu, .int .i64 ma] 26) (d1 : Cs wx ao (vcells x)) (BB : Below w.heap.size w wx) (HSZ : Hid (w3.heap.size ≤ wx.heap.size)), W 9 #[true, true, false, true, true, false, true, false, false, false, false, false, false, false] wx ⟨#[.slice ao m cap, .agg #[.int .u8 k2, .int .i64 n2, .string s2], undef, .pointer (some ⟨w.heap.size, 0, none⟩), .bool false, .bool true, .slice ao f cap, .pointer (some ⟨g7, 0, none⟩), undef, undef, undef, undef, undef, undef, undef, .bool true, .pointer (some ⟨w.heap.size, 2, none⟩), .string s2, .int .i64 (s2.size : Int), .bool (decide (1100 < (s2.size : Int))), undef, .slice ao m cap, .slice ao f cap, .slice ao f cap, .agg #[.int .u8 k, .int .i64 n, .string s, .int .u8 k', .int .i64 n', .string s', .int .i64 nu, .int .i64 ma], .agg #[.int .u8 k, .int .i64 n, .string s, .int .u8 k', .int .i64 n', .string s', .int .i64 nu, .int .i64 ma], .agg #[.int .u8 k2, .int .i64 n2, .string s2], undef, .agg #[.int .u8 k, .int .i64 n, .string s, .int .u8 k', .int .i64 n', .string s', .int .i64 nu, .int .i64 ma], .agg #[.int .u8 k2, .int .i64 n2, .string s2], undef, .agg #[.int .u8 k, .int .i64 n, .string s, .int .u8 k', .int .i64 n', .string s', .int .i64 nu, .int .i64 ma], undef, undef, undef, undef, undef, undef, undef, undef, undef, undef, undef, undef, undef, undef, undef, undef, undef, undef, undef, undef, undef, undef, undef, undef, undef, undef, undef, undef, undef, undef, undef, undef, undef, undef, undef, undef, undef, undef, undef, undef, undef, undef, undef, undef, undef, undef, undef, undef, undef, undef, undef, undef, undef, undef, undef, undef, undef, undef, undef, undef, undef, undef, undef, undef, undef, undef, undef, undef, undef, undef, undef, undef, undef], []⟩ := by
      intro wx zv z7 d1 BB HSZ
      rw [hW]
      refine mix_each [2, 8, 9, 10] (by decide) (by kernel_rfl) ?_
      intro i hi
      simp only [List.mem_cons, List.not_mem_nil, or_false] at hi
      rcases hi with rfl | rfl | rfl | rfl
      ·
        refine ⟨_, rfl, rfl, ?_⟩
        go_wp2_with (first | (at_make; refine Stop.un ?_) | (at_builtin; refine Stop.un ?_) | (with_reducible refine Stop.conv 40 9 ?_) | (with_reducible refine Stop.conv 9 40 ?_))
        refine (HEQ.out _).mono ?_
        rintro e wq ⟨rfl, bq⟩
        go_wp2_with (first | (at_make; refine Stop.un ?_) | (at_builtin; refine Stop.un ?_) | (with_reducible refine Stop.conv 40 9 ?_) | (with_reducible refine Stop.conv 9 40 ?_))
        refine MixPost.mk (RX.ext bq (Hid.out HSZ)) ?_
        rw [← hW]
        exact H1_ wq (zv.mono bq) (z7.mono bq) (d1.mono bq (Nat.le_refl _)) (BB.next bq) (Lib.hid (Nat.le_trans (Hid.out HSZ) (Below.size bq)))
      ·
        refine ⟨_, rfl, rfl, ?_⟩
        go_wp2_with (first | (at_make; refine Stop.un ?_) | (at_builtin; refine Stop.un ?_) | (with_reducible refine Stop.conv 40 9 ?_) | (with_reducible refine Stop.conv 9 40 ?_))
        have bq := (Below.refl wx.heap.size wx).alloc (Nat.le_refl _) (.cells #[.bool false, .bool false, .bool false] 34)
        refine MixPost.mk (RX.ext bq (Hid.out HSZ)) ?_
        rw [← hW]
        exact H0_8 _ (zv.mono bq) (z7.mono bq) (d1.mono bq (Nat.le_refl _)) (BB.next bq) (Lib.hid (Nat.le_trans (Hid.out HSZ) (Below.size bq))) wx.heap.size (At.new wx #[.bool false, .bool false, .bool false] 34) (Hid.out HSZ)
      ·
        refine ⟨_, rfl, rfl, ?_⟩
        go_wp2_with (first | (at_make; refine Stop.un ?_) | (at_builtin; refine Stop.un ?_) | (with_reducible refine Stop.conv 40 9 ?_) | (with_reducible refine Stop.conv 9 40 ?_))
        have bq := (Below.refl wx.heap.size wx).alloc (Nat.le_refl _) (.cells #[.bool false, .bool false, .bool false] 34)
        refine MixPost.mk (RX.ext bq (Hid.out HSZ)) ?_
        rw [← hW]
        exact H0_9 _ (zv.mono bq) (z7.mono bq) (d1.mono bq (Nat.le_refl _)) (BB.next bq) (Lib.hid (Nat.le_trans (Hid.out HSZ) (Below.size bq))) wx.heap.size (At.new wx #[.bool false, .bool false, .bool false] 34) (Hid.out HSZ)
      ·
        refine ⟨_, rfl, rfl, ?_⟩
        go_wp2_with (first | (at_make; refine Stop.un ?_) | (at_builtin; refine Stop.un ?_) | (with_reducible refine Stop.conv 40 9 ?_) | (with_reducible refine Stop.conv 9 40 ?_))
        have bq := (Below.refl wx.heap.size wx).alloc (Nat.le_refl _) (.cells #[.bool false, .bool false, .bool false] 34)
        refine MixPost.mk (RX.ext bq (Hid.out HSZ)) ?_
        rw [← hW]
        exact H0_a _ (zv.mono bq) (z7.mono bq) (d1.mono bq (Nat.le_refl _)) (BB.next bq) (Lib.hid (Nat.le_trans (Hid.out HSZ) (Below.size bq))) wx.heap.size (At.new wx #[.bool false, .bool false, .bool false] 34) (Hid.out HSZ)
    exact H0_ xq zv0 z70 d10 BB0 HSZ0
  ·
    have hs2 : (1100 : Int) < s2.size := by omega
    go_wp2_with (first | (at_make; refine Stop.un ?_) | (at_builtin; refine Stop.un ?_) | (with_reducible refine Stop.conv 40 9 ?_) | (with_reducible refine Stop.conv 9 40 ?_))
    go_ret
    exact ⟨rfl, BB⟩
end Go.Proofs.Ytdpmaocbfmgmlaa
