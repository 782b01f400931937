/- The reference's groups, walked: parts of rows, rows that are alike, sums, what is told of a group, kinds. -/
import Derived.Test.YtbiniecjenencaaGSet
import Derived.Test.YtbiniecjenencaaGPerm
import Derived.Test.YtbiniecjenencaaOSame
import Derived.Test.YtbiniecjenencaaORSort
import Derived.Laws.BitsLemmas
import Derived.Test.YtbiniecjenencaaGTwice
set_option linter.unusedVariables false
set_option linter.unusedSimpArgs false
set_option maxRecDepth 10000
namespace Go.Proofs.Ytbiniecjenencaa
open Go.RowKit
/-! The reference's groups: parts of rows, rows that are alike, sums. -/
set_option maxRecDepth 100000 in
set_option maxHeartbeats 8000000 in
theorem rpart_any (a : Option Addr) (n cap : Nat) (l : List V) (ba : Option Addr) (bn bc : Nat) (bs : List Int) (w : World) (h : RowOk w ⟨a, n, cap, l⟩)
    (hb : Cs w ba (icells bs)) (eb : bs.length = bn) (mb : bn ≤ bc) (cb : bc ≤ maxLen) (sb : bn ≤ 1000) (hc : ∀ c ∈ bs, 0 ≤ c ∧ c < n) :
    Calls Try.prog 33 #[.slice a n cap, .slice ba bn bc] w (fun e w' => ∃ g c, e = .returned (.slice (some ⟨g, 0, none⟩) bn c) ∧ OwnV w w' (.slice (some ⟨g, 0, none⟩) bn c) bn (hdOf bs l)) := by
  unfold maxLen at cb
  have HB := Lib.hid (And.intro eb (And.intro hc (And.intro h hb)))
  have hle : n ≤ cap := h.le
  have hmx : cap ≤ 9223372036854775807 := h.max
  clear eb hc h hb
  have hS : OwnV w (w.alloc (.cells #[] 38)) (.slice (some ⟨w.heap.size, 0, none⟩) 0 0) 0 [] := Own.block (Below.refl _ _) rfl (by decide)
  go_enter Try.func33, Try.ntmps33
  go_wp2_with (first | (at_make; refine Stop.un ?_) | (at_builtin; refine Stop.un ?_) | (with_reducible refine Stop.conv 22 9 ?_) | (with_reducible refine Stop.conv 9 22 ?_))
  go_loopw [6, 5] (fun i v wr => ∃ (j g c : Nat), j ≤ bn ∧ i = .int .i64 (j : Int) ∧ v = .slice (some ⟨g, 0, none⟩) j c ∧ OwnV w wr (.slice (some ⟨g, 0, none⟩) j c) j ((bs.take j).map (atV l))) (fun i _ _ => bn - (intOf i).toNat)
  case atStart => exact ⟨0, _, 0, Nat.zero_le _, rfl, rfl, hS⟩
  case round =>
    clear hS
    obtain ⟨j, g, c, hj, rfl, rfl, O⟩ := hrel
    by_cases hlt : j < bn
    · have hjl : j < bs.length := by have := HB.out.1; omega
      have bw := Own.below O
      have hb := HB.out.2.2.2.mono bw (Nat.le_refl _)
      obtain ⟨b, o, rfl⟩ := hb.addr (by rw [icells_length]; omega)
      have z0 : wr.cell? ⟨b, o + j, none⟩ = some (.int .i64 bs[j]) := hb.at (by simp [icells, hjl])
      obtain ⟨hc0, hc1⟩ := HB.out.2.1 bs[j] (List.getElem_mem _)
      have HT : Hid ((bs.take (j + 1)).map (atV l) = (bs.take j).map (atV l) ++ [atV l bs[j]]) := Lib.hid (by rw [List.take_succ_eq_append_getElem hjl, List.map_append]; rfl)
      generalize bs[j] = col at z0 hc0 hc1 HT
      obtain ⟨cc, rfl⟩ := Int.eq_ofNat_of_zero_le hc0
      have o1 := HB.out.2.2.1.mono bw
      have hlen : l.length = n := o1.len
      have hcr : cc < l.length := by omega
      have ocs : Cs wr a (vcells l) := o1.cs
      obtain ⟨vb, vo, rfl⟩ := ocs.addr (by rw [vcells_length]; omega)
      obtain ⟨q0, q1, q2⟩ := ocs.vat hcr
      rw [atV_in hcr] at HT
      have hcn : cc < n := by omega
      generalize l[cc] = v at q0 q1 q2 HT
      obtain ⟨vk, vn, vs⟩ := v
      simp only at q0 q1 q2
      have ql := lt_cell q0
      have zl := lt_cell z0
      clear hb o1 ocs hcr hc0 hc1 hjl bw hlen
      go_wp2_with (first | (at_make; refine Stop.un ?_) | (at_builtin; refine Stop.un ?_) | (with_reducible refine Stop.conv 22 9 ?_) | (with_reducible refine Stop.conv 9 22 ?_))
      refine Stop.mk (app_rv1 (c := ⟨vk, vn, vs⟩) w _ _ rfl rfl O rfl rfl (by omega) ?_)
      intro g5 c5 w5 O5 _ _
      rw [← HT.out] at O5
      clear O HT q0 q1 q2 z0 ql zl
      go_wp2_with (first | (at_make; refine Stop.un ?_) | (at_builtin; refine Stop.un ?_) | (with_reducible refine Stop.conv 22 9 ?_) | (with_reducible refine Stop.conv 9 22 ?_))
      go_roundw
      case rel => exact ⟨j + 1, g5, c5, by omega, by go_num, rfl, O5⟩
      case measure => simp [intOf]; omega
    · obtain rfl : j = bn := by omega
      rw [List.take_of_length_le (by have := HB.out.1; omega)] at O
      go_wp2_with (first | (at_make; refine Stop.un ?_) | (at_builtin; refine Stop.un ?_) | (with_reducible refine Stop.conv 22 9 ?_) | (with_reducible refine Stop.conv 9 22 ?_))
      go_ret
      exact ⟨g, c, by first | rfl | simp, O⟩
/-- Rows whose values in by are a head's. -/
def sameW (bs : List Int) (hl : List V) (rows : List Rw) : List Rw := rows.filter (fun r => decide (hdOf bs r.l = hl))
set_option maxRecDepth 100000 in
set_option maxHeartbeats 8000000 in
theorem rsame_any (ra : Option Addr) (rn rc : Nat) (rows : List Rw) (ba : Option Addr) (bn bc : Nat) (bs : List Int) (ha : Option Addr) (hn hcp : Nat) (hl : List V) (w : World) (t : Tab w ra rows) (e2 : rows.length = rn) (m2 : rn ≤ rc) (c2 : rc ≤ maxLen) (s2 : rn ≤ 1000)
    (hb : Cs w ba (icells bs)) (eb : bs.length = bn) (mb : bn ≤ bc) (cb : bc ≤ maxLen) (sb : bn ≤ 1000) (hc : ∀ r ∈ rows, ∀ c ∈ bs, 0 ≤ c ∧ c < r.n)
    (hh : Cs w ha (vcells hl)) (eh : hl.length = hn) (mh : hn ≤ hcp) (ch : hcp ≤ maxLen) :
    Calls Try.prog 35 #[.slice ra rn rc, .slice ba bn bc, .slice ha hn hcp] w (fun e w' => ∃ a n c, e = .returned (.slice a n c) ∧ OwnRs w w' (.slice a n c) n (sameW bs hl rows)) := by
  have HP := Lib.hid (fun (W : World) (r : Rw) (h : RowOk W r) (hb : Cs W ba (icells bs)) (hc : ∀ c ∈ bs, 0 ≤ c ∧ c < r.n) => rpart_any r.a r.n r.cap r.l ba bn bc bs W h hb eb mb cb sb hc)
  have HS := Lib.hid (fun (W : World) (g c : Nat) (l : List V) (h1 : Cs W (some ⟨g, 0, none⟩) (vcells l)) (h2 : Cs W ha (vcells hl)) (e1 : l.length = bn) (m1 : bn ≤ c) (c1 : c ≤ maxLen) => samerow_any (some ⟨g, 0, none⟩) bn c l ha hn hcp hl W h1 h2 e1 eh m1 mh c1 ch)
  unfold maxLen at c2 cb ch
  have HN := Lib.hid (And.intro e2 (And.intro hc (And.intro t (And.intro hb hh))))
  clear e2 hc t hb hh eb eh
  go_enter Try.func35, Try.ntmps35
  go_wp2_with (first | (at_make; refine Stop.un ?_) | (at_builtin; refine Stop.un ?_) | (with_reducible refine Stop.conv 22 9 ?_) | (with_reducible refine Stop.conv 9 22 ?_))
  go_loopw [8, 7] (fun i v wr => ∃ (j : Nat) (ab : Option Addr) (k cb : Nat), j ≤ rn ∧ k ≤ j ∧ i = .int .i64 (j : Int) ∧ v = .slice ab k cb ∧ OwnRs w wr (.slice ab k cb) k (sameW bs hl (rows.take j))) (fun i _ _ => rn - (intOf i).toNat)
  case atStart => exact ⟨0, none, 0, 0, Nat.zero_le _, Nat.le_refl _, rfl, rfl, Own.nil _ _ (Below.refl _ _)⟩
  case round =>
    obtain ⟨j, ab, k, cb, hj, hkj, rfl, rfl, O⟩ := hrel
    by_cases hlt : j < rn
    · have hjl : j < rows.length := by have := HN.out.1; omega
      have bw := Own.below O
      have t2 := HN.out.2.2.1.mono bw
      obtain ⟨b, o, rfl⟩ := t2.cs.addr (by rw [rwcells_length]; omega)
      have x0 := t2.at hjl
      have HT : Hid (sameW bs hl (rows.take (j + 1)) = if hdOf bs rows[j].l = hl then sameW bs hl (rows.take j) ++ [rows[j]] else sameW bs hl (rows.take j)) := Lib.hid (by
        unfold sameW
        rw [List.take_succ_eq_append_getElem hjl, List.filter_append]
        by_cases hq : hdOf bs rows[j].l = hl
        · rw [if_pos hq, List.filter_cons, if_pos (decide_eq_true hq)]; rfl
        · rw [if_neg hq, List.filter_cons, if_neg (by simpa using hq)]; simp)
      have HR := Lib.hid (HP.out wr rows[j] (t2.ok rows[j] (List.getElem_mem _)) (HN.out.2.2.2.1.mono bw (Nat.le_refl _)) (HN.out.2.1 rows[j] (List.getElem_mem _)))
      have hh2 := HN.out.2.2.2.2.mono bw (Nat.le_refl _)
      generalize rows[j] = r at x0 HT HR
      clear hjl t2 bw
      go_wp2_with (first | (at_make; refine Stop.un ?_) | (at_builtin; refine Stop.un ?_) | (with_reducible refine Stop.conv 22 9 ?_) | (with_reducible refine Stop.conv 9 22 ?_))
      refine HR.out.mono ?_
      rintro e w2 ⟨g, c, rfl, OP⟩
      have bt := Own.below OP
      replace O := Own.keep O bt
      replace x0 := Ext.cell bt x0
      replace hh2 := hh2.mono bt (Nat.le_refl _)
      have HR2 := Lib.hid (HS.out w2 g c _ (Own.cs OP) hh2 (OwnV.length OP) (owns_le OP.1) (owns_max OP.1))
      have hlc := owns_le OP.1
      have hmc : c ≤ 9223372036854775807 := owns_max OP.1
      clear OP bt hh2 HR
      go_wp2_with (first | (at_make; refine Stop.un ?_) | (at_builtin; refine Stop.un ?_) | (with_reducible refine Stop.conv 22 9 ?_) | (with_reducible refine Stop.conv 9 22 ?_))
      refine HR2.out.mono ?_
      rintro e w3 ⟨rfl, bt⟩
      replace O := Own.keep O bt
      replace x0 := Ext.cell bt x0
      clear bt HR2
      by_cases hq : hdOf bs r.l = hl
      · have hd : decide (hdOf bs r.l = hl) = true := decide_eq_true hq
        have HT2 := Lib.hid (HT.out.trans (if_pos hq))
        clear HT hq
        rw [hd]
        go_wp2_with (first | (at_make; refine Stop.un ?_) | (at_builtin; refine Stop.un ?_) | (with_reducible refine Stop.conv 22 9 ?_) | (with_reducible refine Stop.conv 9 22 ?_))
        refine Stop.mk (app_rw1 (r := r) w _ _ rfl rfl O rfl rfl (by omega) ?_)
        intro a5 c5 w5 O5 g5 k5
        rw [← HT2.out] at O5
        clear O g5 k5 x0 HT2
        go_wp2_with (first | (at_make; refine Stop.un ?_) | (at_builtin; refine Stop.un ?_) | (with_reducible refine Stop.conv 22 9 ?_) | (with_reducible refine Stop.conv 9 22 ?_))
        go_roundw
        case rel => exact ⟨j + 1, a5, k + 1, c5, by omega, by omega, by go_num, rfl, O5⟩
        case measure => simp [intOf]; omega
      · have hd : decide (hdOf bs r.l = hl) = false := decide_eq_false hq
        have HT2 := Lib.hid (HT.out.trans (if_neg hq))
        rw [← HT2.out] at O
        clear HT hq x0
        rw [hd]
        go_wp2_with (first | (at_make; refine Stop.un ?_) | (at_builtin; refine Stop.un ?_) | (with_reducible refine Stop.conv 22 9 ?_) | (with_reducible refine Stop.conv 9 22 ?_))
        go_roundw
        case rel => exact ⟨j + 1, ab, k, cb, by omega, by omega, by go_num, rfl, O⟩
        case measure => simp [intOf]; omega
    · obtain rfl : j = rn := by omega
      rw [List.take_of_length_le (by have := HN.out.1; omega)] at O
      go_wp2_with (first | (at_make; refine Stop.un ?_) | (at_builtin; refine Stop.un ?_) | (with_reducible refine Stop.conv 22 9 ?_) | (with_reducible refine Stop.conv 9 22 ?_))
      go_ret
      exact ⟨ab, k, cb, by first | rfl | simp, O⟩
/-! The reference's groups: sums, and what is told of a group. -/
/-- The upper and lower half of a sum. -/
def hiS (zs : List Int) : Int := (zs.map (fun z => z / 4294967296)).sum
def loS (zs : List Int) : Int := (zs.map (fun z => z % 4294967296)).sum
theorem hl_sum : ∀ zs : List Int, hiS zs * 4294967296 + loS zs = zs.sum
  | [] => rfl
  | z :: zs => by
    have := hl_sum zs
    unfold hiS loS at this ⊢
    simp only [List.map_cons, List.sum_cons]
    omega
theorem hl_bnd : ∀ zs : List Int, (∀ z ∈ zs, inI z) → -(2147483648 * (zs.length : Int)) ≤ hiS zs ∧ hiS zs ≤ 2147483648 * (zs.length : Int) ∧ 0 ≤ loS zs ∧ loS zs ≤ 4294967296 * (zs.length : Int)
  | [], _ => ⟨by decide, by decide, by decide, by decide⟩
  | z :: zs, h => by
    have h1 := h z List.mem_cons_self
    have h2 := hl_bnd zs (fun y hy => h y (List.mem_cons_of_mem _ hy))
    unfold inI at h1
    unfold hiS loS at h2 ⊢
    simp only [List.map_cons, List.sum_cons, List.length_cons]
    omega
theorem hiS_snoc (zs : List Int) (z : Int) : hiS (zs ++ [z]) = hiS zs + z / 4294967296 := by
  unfold hiS
  rw [List.map_append, List.sum_append]
  simp
theorem loS_snoc (zs : List Int) (z : Int) : loS (zs ++ [z]) = loS zs + z % 4294967296 := by
  unfold loS
  rw [List.map_append, List.sum_append]
  simp
theorem and32 (L : Int) (h0 : 0 ≤ L) (h1 : L < 9223372036854775808) : bits .and .i64 L 4294967295 = L % 4294967296 := by
  have e63 : (2 : Int) ^ 63 = 9223372036854775808 := by decide
  have e32 : (2 : Int) ^ 32 - 1 = 4294967295 := by decide
  have h := bits_mask .i64 63 (by decide) (fun n h0 h1 => by rw [e63] at h1; rw [IntKind.wrap_i64]; omega) 32 (by decide) L h0 (by rw [e63]; exact h1)
  rw [e32] at h
  rw [h]
  rfl
/-- The numbers of a column. -/
def numW (rows : List Rw) (cc : Nat) : List Int := rows.map (fun r => (atV r.l (cc : Int)).n)
def RetSum (w : World) (S : Int) : Ending → World → Prop := fun e w' => ∃ n b, e = .returned (.tuple #[.int .i64 n, .bool b]) ∧ (b = true ↔ inI S) ∧ (b = true → n = S) ∧ Below w.heap.size w w'
set_option maxRecDepth 100000 in
set_option maxHeartbeats 8000000 in
theorem rsum_any (ra : Option Addr) (rn rc : Nat) (rows : List Rw) (cc : Nat) (w : World) (t : Tab w ra rows) (e2 : rows.length = rn) (m2 : rn ≤ rc) (c2 : rc ≤ maxLen) (s2 : rn ≤ 1000)
    (hc : ∀ r ∈ rows, cc < r.n) (hv : ∀ z ∈ numW rows cc, inI z) :
    Calls Try.prog 48 #[.slice ra rn rc, .int .i64 (cc : Int)] w (RetSum w (numW rows cc).sum) := by
  unfold maxLen at c2
  have hs0 := hl_sum (numW rows cc)
  obtain ⟨S, hS⟩ : ∃ S, (numW rows cc).sum = S := ⟨_, rfl⟩
  rw [hS] at hs0 ⊢
  have hs := Lib.hid hs0
  clear hs0 hS
  have HN := Lib.hid (And.intro e2 (And.intro hc (And.intro t hv)))
  clear e2 hc t hv
  go_enter Try.func48, Try.ntmps48
  go_wp2_with (first | (at_make; refine Stop.un ?_) | (at_builtin; refine Stop.un ?_) | (with_reducible refine Stop.conv 22 9 ?_) | (with_reducible refine Stop.conv 9 22 ?_))
  go_loopw [8, 6, 7] (fun i h l wr => ∃ (j : Nat), j ≤ rn ∧ i = .int .i64 (j : Int) ∧ h = .int .i64 (hiS (numW (rows.take j) cc)) ∧ l = .int .i64 (loS (numW (rows.take j) cc)) ∧ Below w.heap.size w wr) (fun i _ _ _ => rn - (intOf i).toNat)
  case atStart => exact ⟨0, Nat.zero_le _, rfl, rfl, rfl, Below.refl _ _⟩
  case round =>
    obtain ⟨j, hj, rfl, rfl, rfl, b0⟩ := hrel
    by_cases hlt : j < rn
    · have hjl : j < rows.length := by have := HN.out.1; omega
      have t2 := HN.out.2.2.1.mono b0
      obtain ⟨b, o, rfl⟩ := t2.cs.addr (by rw [rwcells_length]; omega)
      have x0 := t2.at hjl
      have o1 := t2.ok rows[j] (List.getElem_mem _)
      have hcn := HN.out.2.1 rows[j] (List.getElem_mem _)
      have hzi : inI (atV rows[j].l (cc : Int)).n := HN.out.2.2.2 _ (List.mem_map_of_mem (List.getElem_mem _))
      have HT : Hid (numW (rows.take (j + 1)) cc = numW (rows.take j) cc ++ [(atV rows[j].l (cc : Int)).n]) := Lib.hid (by unfold numW; rw [List.take_succ_eq_append_getElem hjl, List.map_append]; rfl)
      have hbd := hl_bnd (numW (rows.take j) cc) (fun z hz => by
        obtain ⟨r, hr, rfl⟩ := List.mem_map.1 hz
        exact HN.out.2.2.2 _ (List.mem_map_of_mem (List.mem_of_mem_take hr)))
      have hnl : (numW (rows.take j) cc).length = j := by unfold numW; rw [List.length_map, List.length_take]; omega
      rw [hnl] at hbd
      generalize rows[j] = r at x0 o1 hcn hzi HT
      have hcr : cc < r.l.length := by have := o1.len; omega
      have ocs := o1.cs
      obtain ⟨vb, vo, hra⟩ := ocs.addr (by rw [vcells_length]; omega)
      rw [hra] at x0 ocs
      obtain ⟨-, q1, -⟩ := ocs.vat hcr
      rw [atV_in hcr] at HT hzi
      have hrle := o1.le
      have hrmx : r.cap ≤ 9223372036854775807 := o1.max
      generalize r.l[cc].n = z at q1 HT hzi
      have h1 := hiS_snoc (numW (rows.take j) cc) z
      have h2 := loS_snoc (numW (rows.take j) cc) z
      rw [← HT.out] at h1 h2
      have HX := Lib.hid (And.intro h1 h2)
      generalize hiS (numW (rows.take j) cc) = H at HX hbd ⊢
      generalize loS (numW (rows.take j) cc) = L at HX hbd ⊢
      obtain ⟨hb1, hb2, hb3, hb4⟩ := hbd
      obtain ⟨hz1, hz2⟩ := hzi
      have xl := lt_cell x0
      have ql := lt_cell q1
      have HL : Hid (wrap64 (wrap64 (L + z) - z / 4294967296 * 4294967296) = loS (numW (rows.take (j + 1)) cc)) := Lib.hid (by
        rw [HX.out.2]
        unfold wrap64
        omega)
      clear h1 h2 t2 o1 ocs hcr hra HT hjl hnl
      have hw : -2147483648 ≤ z / 4294967296 ∧ z / 4294967296 ≤ 2147483647 := by omega
      obtain ⟨hw1, hw2⟩ := hw
      go_wp2_with (first | (at_make; refine Stop.un ?_) | (at_builtin; refine Stop.un ?_) | (with_reducible refine Stop.conv 22 9 ?_) | (with_reducible refine Stop.conv 9 22 ?_))
      go_roundw
      case rel => exact ⟨j + 1, by omega, by go_num, by rw [HX.out.1], by rw [HL.out], b0⟩
      case measure => simp [intOf]; omega
    · obtain rfl : j = rn := by omega
      have HT : Hid (rows.take j = rows) := Lib.hid (List.take_of_length_le (by have := HN.out.1; omega))
      rw [HT.out]
      have hbd := hl_bnd (numW rows cc) HN.out.2.2.2
      have hnl : (numW rows cc).length = j := by unfold numW; rw [List.length_map]; exact HN.out.1
      rw [hnl] at hbd
      generalize hiS (numW rows cc) = H at hs hbd ⊢
      generalize loS (numW rows cc) = L at hs hbd ⊢
      obtain ⟨hb1, hb2, hb3, hb4⟩ := hbd
      clear hnl
      have ha := and32 L hb3 (by omega)
      have hq : inI S ↔ -2147483648 ≤ H + L / 4294967296 ∧ H + L / 4294967296 ≤ 2147483647 := by
        have := hs.out
        unfold inI
        omega
      by_cases h1 : H + L / 4294967296 < -2147483648
      · have hd : decide (H + L / 4294967296 < -2147483648) = true := decide_eq_true h1
        have HQ : Hid (¬ inI S) := Lib.hid (fun h => by have := hq.1 h; omega)
        clear hq hs
        go_wp2_with (first | (at_make; refine Stop.un ?_) | (at_builtin; refine Stop.un ?_) | (with_reducible refine Stop.conv 22 9 ?_) | (with_reducible refine Stop.conv 9 22 ?_))
        go_ret2
        exact ⟨0, false, by first | rfl | simp, ⟨fun h => (by cases h), fun h => absurd h HQ.out⟩, fun h => (by cases h), b0⟩
      · have hd : decide (H + L / 4294967296 < -2147483648) = false := decide_eq_false h1
        by_cases h2 : 2147483647 < H + L / 4294967296
        · have hd2 : decide (2147483647 < H + L / 4294967296) = true := decide_eq_true h2
          have HQ : Hid (¬ inI S) := Lib.hid (fun h => by have := hq.1 h; omega)
          clear hq hs
          go_wp2_with (first | (at_make; refine Stop.un ?_) | (at_builtin; refine Stop.un ?_) | (with_reducible refine Stop.conv 22 9 ?_) | (with_reducible refine Stop.conv 9 22 ?_))
          go_ret2
          exact ⟨0, false, by first | rfl | simp, ⟨fun h => (by cases h), fun h => absurd h HQ.out⟩, fun h => (by cases h), b0⟩
        · have hd2 : decide (2147483647 < H + L / 4294967296) = false := decide_eq_false h2
          have HQ : Hid (inI S) := Lib.hid (hq.2 (by omega))
          have HE : Hid ((H + L / 4294967296) * 4294967296 + L % 4294967296 = S) := Lib.hid (by
            have := hs.out
            omega)
          clear hq hs
          go_wp2_with (first | (at_make; refine Stop.un ?_) | (at_builtin; refine Stop.un ?_) | (with_reducible refine Stop.conv 22 9 ?_) | (with_reducible refine Stop.conv 9 22 ?_))
          go_ret2
          exact ⟨_, true, by first | rfl | simp, ⟨fun _ => HQ.out, fun _ => rfl⟩, fun _ => HE.out, b0⟩
/-! The reference's groups: what is told of a group. -/
/-- The best of values so far, and one more. -/
def stepB (op : Int) (b v : V) : V := if v.k = 0 then b else if b.k = 0 ∨ (op = 4 ∧ cmpV v b < 0) ∨ (op = 5 ∧ 0 < cmpV v b) then v else b
def bestB (op : Int) (vs : List V) : V := vs.foldl (stepB op) V.zero
theorem best_snoc (op : Int) (vs : List V) (v : V) : bestB op (vs ++ [v]) = stepB op (bestB op vs) v := by
  unfold bestB
  rw [List.foldl_append]
  rfl
theorem best4 : ∀ (vs : List V) (K : Kn) (b : V), b = K.least → (K.some = 0 ↔ b.k = 0) → 0 ≤ K.some → vs.foldl (stepB 4) b = (vs.foldl Kn.add K).least
  | [], K, b, h, _, _ => h
  | v :: vs, K, b, h, h2, h3 => by
    rw [List.foldl_cons, List.foldl_cons]
    by_cases hk : v.k = 0
    · have e1 : stepB 4 b v = b := if_pos hk
      have e2 : K.add v = ⟨K.rows + 1, K.some, K.hi, K.lo, K.least, K.most⟩ := if_pos hk
      rw [e1, e2]
      exact best4 vs _ _ h h2 h3
    · have e2 : K.add v = ⟨K.rows + 1, K.some + 1, addH K.hi K.lo v.n, addL K.lo v.n, if K.some = 0 ∨ cmpV v K.least < 0 then v else K.least, if K.some = 0 ∨ 0 < cmpV v K.most then v else K.most⟩ := if_neg hk
      have e1 : stepB 4 b v = if K.some = 0 ∨ cmpV v K.least < 0 then v else K.least := by
        unfold stepB
        rw [if_neg hk, h]
        rw [h] at h2
        by_cases hc : K.some = 0 ∨ cmpV v K.least < 0
        · rw [if_pos hc, if_pos (hc.elim (fun hc => .inl (h2.1 hc)) (fun hc => .inr (.inl ⟨rfl, hc⟩)))]
        · rw [if_neg hc, if_neg (by
            rintro (h4 | ⟨_, h4⟩ | ⟨h4, _⟩)
            · exact hc (.inl (h2.2 h4))
            · exact hc (.inr h4)
            · cases h4)]
      rw [e2, e1]
      refine best4 vs _ _ rfl ⟨fun h4 => by simp only at h4; omega, fun h4 => ?_⟩ (by simp only; omega)
      exfalso
      split at h4
      · exact hk h4
      · next hc =>
        rw [h] at h2
        exact hc (.inl (h2.2 h4))
theorem best5 : ∀ (vs : List V) (K : Kn) (b : V), b = K.most → (K.some = 0 ↔ b.k = 0) → 0 ≤ K.some → vs.foldl (stepB 5) b = (vs.foldl Kn.add K).most
  | [], K, b, h, _, _ => h
  | v :: vs, K, b, h, h2, h3 => by
    rw [List.foldl_cons, List.foldl_cons]
    by_cases hk : v.k = 0
    · have e1 : stepB 5 b v = b := if_pos hk
      have e2 : K.add v = ⟨K.rows + 1, K.some, K.hi, K.lo, K.least, K.most⟩ := if_pos hk
      rw [e1, e2]
      exact best5 vs _ _ h h2 h3
    · have e2 : K.add v = ⟨K.rows + 1, K.some + 1, addH K.hi K.lo v.n, addL K.lo v.n, if K.some = 0 ∨ cmpV v K.least < 0 then v else K.least, if K.some = 0 ∨ 0 < cmpV v K.most then v else K.most⟩ := if_neg hk
      have e1 : stepB 5 b v = if K.some = 0 ∨ 0 < cmpV v K.most then v else K.most := by
        unfold stepB
        rw [if_neg hk, h]
        rw [h] at h2
        by_cases hc : K.some = 0 ∨ 0 < cmpV v K.most
        · rw [if_pos hc, if_pos (hc.elim (fun hc => .inl (h2.1 hc)) (fun hc => .inr (.inr ⟨rfl, hc⟩)))]
        · rw [if_neg hc, if_neg (by
            rintro (h4 | ⟨h4, _⟩ | ⟨_, h4⟩)
            · exact hc (.inl (h2.2 h4))
            · cases h4
            · exact hc (.inr h4))]
      rw [e2, e1]
      refine best5 vs _ _ rfl ⟨fun h4 => by simp only at h4; omega, fun h4 => ?_⟩ (by simp only; omega)
      exfalso
      split at h4
      · exact hk h4
      · next hc =>
        rw [h] at h2
        exact hc (.inl (h2.2 h4))
/-- The values of a column. -/
def valW (rows : List Rw) (cc : Nat) : List V := rows.map (fun r => atV r.l (cc : Int))
def someW (rows : List Rw) (cc : Nat) : List Rw := rows.filter (fun r => decide ((atV r.l (cc : Int)).k ≠ 0))
theorem agg_told (rows : List Rw) (op : Int) (cc : Nat) (hop : op ≠ 1) : aggB (rows.map (·.l)) ⟨op, cc⟩ = ((valW rows cc).foldl Kn.add Kn.zero).told op := by
  have e : (rows.map (·.l)).map (vOf ⟨op, cc⟩) = valW rows cc := by
    unfold valW
    rw [List.map_map]
    exact List.map_congr_left (fun r _ => if_neg hop)
  unfold aggB knOf
  rw [e]
theorem some_len (rows : List Rw) (cc : Nat) : (someW rows cc).length = cntV (valW rows cc) := by
  unfold someW cntV valW
  rw [List.filter_map, List.length_map]
  rfl
theorem some_sum (rows : List Rw) (cc : Nat) : (numW (someW rows cc) cc).sum = sumV (valW rows cc) := by
  unfold numW someW sumV valW
  rw [List.filter_map, List.map_map]
  rfl
theorem val_in {rows : List Rw} {cc : Nat} (hv : ∀ r ∈ rows, ∀ v ∈ r.l, inI v.n) : ∀ v ∈ valW rows cc, inI v.n := fun v hv2 => by
  obtain ⟨r, hr, rfl⟩ := List.mem_map.1 hv2
  unfold atV
  split
  · rw [List.getD_eq_getElem?_getD]
    cases e : r.l[(cc : Int).toNat]? with
    | none => exact inI_zero
    | some v => exact hv r hr v (List.mem_of_getElem? e)
  · exact inI_zero
theorem agg_2 (rows : List Rw) (cc : Nat) (hl : rows.length ≤ 1000) (hv : ∀ r ∈ rows, ∀ v ∈ r.l, inI v.n) : aggB (rows.map (·.l)) ⟨2, cc⟩ = (numG (someW rows cc).length, 0) := by
  have hK := kn_inv (valW rows cc) (by unfold valW; rw [List.length_map]; omega) (val_in hv)
  rw [agg_told rows 2 cc (by decide), some_len]
  unfold Kn.told
  rw [if_neg (show ¬ ((2 : Int) = 1) by decide), if_pos rfl, hK.some]
theorem agg_3 (rows : List Rw) (cc : Nat) (hl : rows.length ≤ 1000) (hv : ∀ r ∈ rows, ∀ v ∈ r.l, inI v.n) :
    ((someW rows cc).length = 0 → aggB (rows.map (·.l)) ⟨3, cc⟩ = (V.zero, 0)) ∧ ((someW rows cc).length ≠ 0 → inI (numW (someW rows cc) cc).sum → aggB (rows.map (·.l)) ⟨3, cc⟩ = (numG (numW (someW rows cc) cc).sum, 0)) ∧
      ((someW rows cc).length ≠ 0 → ¬ inI (numW (someW rows cc) cc).sum → aggB (rows.map (·.l)) ⟨3, cc⟩ = (V.zero, 220)) := by
  have hK := kn_inv (valW rows cc) (by unfold valW; rw [List.length_map]; omega) (val_in hv)
  have hn := nar_iff _ _ _ hK.l0 hK.l1 hK.sum
  have hs := hK.some
  rw [agg_told rows 3 cc (by decide), some_len, some_sum]
  generalize (valW rows cc).foldl Kn.add Kn.zero = K at hn hs
  unfold Kn.told
  rw [if_neg (show ¬ ((3 : Int) = 1) by decide), if_neg (show ¬ ((3 : Int) = 2) by decide), if_neg (show ¬ ((3 : Int) = 4) by decide), if_neg (show ¬ ((3 : Int) = 5) by decide)]
  refine ⟨fun h => if_pos (by omega), fun h h2 => ?_, fun h h2 => ?_⟩
  · rw [if_neg (by omega), if_pos (hn.1.2 h2), hn.2 h2]
  · rw [if_neg (by omega), if_neg (fun h3 => h2 (hn.1.1 h3))]
theorem agg_4 (rows : List Rw) (cc : Nat) : aggB (rows.map (·.l)) ⟨4, cc⟩ = (bestB 4 (valW rows cc), 0) := by
  rw [agg_told rows 4 cc (by decide)]
  unfold bestB
  rw [best4 (valW rows cc) Kn.zero V.zero rfl ⟨fun _ => rfl, fun _ => rfl⟩ (by decide)]
  rfl
theorem agg_5 (rows : List Rw) (cc : Nat) : aggB (rows.map (·.l)) ⟨5, cc⟩ = (bestB 5 (valW rows cc), 0) := by
  rw [agg_told rows 5 cc (by decide)]
  unfold bestB
  rw [best5 (valW rows cc) Kn.zero V.zero rfl ⟨fun _ => rfl, fun _ => rfl⟩ (by decide)]
  rfl
/-! The reference's groups: what is told of a group, walked. -/
def RetOne (w : World) (res : V × Int) : Ending → World → Prop := fun e w' => e = .returned (.tuple #[res.1.val, .int .i64 res.2]) ∧ Below w.heap.size w w'
theorem someW_snoc (rows : List Rw) (cc j : Nat) (h : j < rows.length) : someW (rows.take (j + 1)) cc = if (atV rows[j].l (cc : Int)).k = 0 then someW (rows.take j) cc else someW (rows.take j) cc ++ [rows[j]] := by
  unfold someW
  rw [List.take_succ_eq_append_getElem h, List.filter_append]
  by_cases hq : (atV rows[j].l (cc : Int)).k = 0
  · rw [if_pos hq, List.filter_cons, if_neg (by simpa using hq)]
    simp
  · rw [if_neg hq, List.filter_cons, if_pos (decide_eq_true hq)]
    rfl
theorem bestW_snoc (op : Int) (rows : List Rw) (cc j : Nat) (h : j < rows.length) : bestB op (valW (rows.take (j + 1)) cc) = stepB op (bestB op (valW (rows.take j) cc)) (atV rows[j].l (cc : Int)) := by
  rw [← best_snoc]
  unfold valW
  rw [List.take_succ_eq_append_getElem h, List.map_append]
  rfl
theorem x0off {w : World} {b o g : Nat} {v : Value} (h : w.cell? ⟨b, o, none⟩ = some v) (hn : b ≠ g) (k n : Int) (s : ByteArray) : (((w.setCell ⟨g, 0, none⟩ (.int .u8 k)).setCell ⟨g, 1, none⟩ (.int .i64 n)).setCell ⟨g, 2, none⟩ (.string s)).cell? ⟨b, o, none⟩ = some v := by
  have h1 : (((w.setCell ⟨g, 0, none⟩ (.int .u8 k)).setCell ⟨g, 1, none⟩ (.int .i64 n)).setCell ⟨g, 2, none⟩ (.string s)).heap[b]? = w.heap[b]? :=
    (Below.heap_setCell _ ⟨g, 2, none⟩ _ b hn).trans ((Below.heap_setCell _ ⟨g, 1, none⟩ _ b hn).trans (Below.heap_setCell _ ⟨g, 0, none⟩ _ b hn))
  rw [World.cell?_of_block (a := ⟨b, o, none⟩) h1]
  exact h
set_option maxRecDepth 100000 in
set_option maxHeartbeats 16000000 in
theorem rone_any (ra : Option Addr) (rn rc : Nat) (rows : List Rw) (op col : Int) (w : World) (t : Tab w ra rows) (e2 : rows.length = rn) (m2 : rn ≤ rc) (c2 : rc ≤ maxLen) (s2 : rn ≤ 1000)
    (hop : 1 ≤ op ∧ op ≤ 5) (hok : op = 1 ∨ ∃ cc : Nat, col = (cc : Int) ∧ ∀ r ∈ rows, cc < r.n) (hv : ∀ r ∈ rows, ∀ v ∈ r.l, inI v.n) :
    Calls Try.prog 34 #[.slice ra rn rc, .agg #[.int .u8 op, .int .i64 col]] w (RetOne w (aggB (rows.map (·.l)) ⟨op, col⟩)) := by
  unfold maxLen at c2
  have HN := Lib.hid (And.intro e2 (And.intro hok (And.intro t hv)))
  clear hok t hv
  obtain ⟨res, hres⟩ : ∃ res, aggB (rows.map (·.l)) ⟨op, col⟩ = res := ⟨_, rfl⟩
  rw [hres]
  have HRES := Lib.hid hres
  clear hres e2
  have zx : At (((w.alloc (.cells #[.int .u8 op, .int .i64 col] 34)).alloc (.cells #[.int .u8 0, .int .i64 0, .string ⟨#[]⟩] 38)).alloc (.cells #[.int .u8 2, .int .i64 0, .string ⟨#[]⟩] 38)) (w.heap.size) #[.int .u8 op, .int .i64 col] 34 := by simpa only [World.size_alloc, Nat.add_assoc, Nat.reduceAdd] using ((At.new w #[.int .u8 op, .int .i64 col] 34).alloc (.cells #[.int .u8 0, .int .i64 0, .string ⟨#[]⟩] 38)).alloc (.cells #[.int .u8 2, .int .i64 0, .string ⟨#[]⟩] 38)
  have zr : At (((w.alloc (.cells #[.int .u8 op, .int .i64 col] 34)).alloc (.cells #[.int .u8 0, .int .i64 0, .string ⟨#[]⟩] 38)).alloc (.cells #[.int .u8 2, .int .i64 0, .string ⟨#[]⟩] 38)) (w.heap.size + 1) #[.int .u8 0, .int .i64 0, .string ⟨#[]⟩] 38 := by simpa only [World.size_alloc, Nat.add_assoc, Nat.reduceAdd] using (At.new (w.alloc (.cells #[.int .u8 op, .int .i64 col] 34)) #[.int .u8 0, .int .i64 0, .string ⟨#[]⟩] 38).alloc (.cells #[.int .u8 2, .int .i64 0, .string ⟨#[]⟩] 38)
  have zn : At (((w.alloc (.cells #[.int .u8 op, .int .i64 col] 34)).alloc (.cells #[.int .u8 0, .int .i64 0, .string ⟨#[]⟩] 38)).alloc (.cells #[.int .u8 2, .int .i64 0, .string ⟨#[]⟩] 38)) (w.heap.size + 2) #[.int .u8 2, .int .i64 0, .string ⟨#[]⟩] 38 := by simpa only [World.size_alloc, Nat.add_assoc, Nat.reduceAdd] using At.new ((w.alloc (.cells #[.int .u8 op, .int .i64 col] 34)).alloc (.cells #[.int .u8 0, .int .i64 0, .string ⟨#[]⟩] 38)) #[.int .u8 2, .int .i64 0, .string ⟨#[]⟩] 38
  have BB : Below w.heap.size w (((w.alloc (.cells #[.int .u8 op, .int .i64 col] 34)).alloc (.cells #[.int .u8 0, .int .i64 0, .string ⟨#[]⟩] 38)).alloc (.cells #[.int .u8 2, .int .i64 0, .string ⟨#[]⟩] 38)) := Below.alloc (Below.alloc (Below.alloc (Below.refl w.heap.size w) (by (try simp only [World.size_alloc]) <;> omega) (.cells #[.int .u8 op, .int .i64 col] 34)) (by (try simp only [World.size_alloc]) <;> omega) (.cells #[.int .u8 0, .int .i64 0, .string ⟨#[]⟩] 38)) (by (try simp only [World.size_alloc]) <;> omega) (.cells #[.int .u8 2, .int .i64 0, .string ⟨#[]⟩] 38)
  replace zn : At _ (w.heap.size + 1 + 1) _ _ := zn
  go_enter Try.func34, Try.ntmps34
  go_upto_region 2 with fail
  generalize ((w.alloc (.cells #[.int .u8 op, .int .i64 col] 34)).alloc (.cells #[.int .u8 0, .int .i64 0, .string ⟨#[]⟩] 38)).alloc (.cells #[.int .u8 2, .int .i64 0, .string ⟨#[]⟩] 38) = wA at zx zr zn BB ⊢
  obtain ⟨gn, hgn⟩ : ∃ g, w.heap.size + 1 + 1 = g := ⟨_, rfl⟩
  rw [hgn] at zn ⊢
  obtain ⟨gr, hgr⟩ : ∃ g, w.heap.size + 1 = g := ⟨_, rfl⟩
  rw [hgr] at zr hgn ⊢
  obtain ⟨gx, hgx⟩ : ∃ g, w.heap.size = g := ⟨_, rfl⟩
  have HG : Hid (w.heap.size ≤ gx ∧ gx < gr ∧ gr < gn) := Lib.hid (by omega)
  have zx : At wA gx #[.int .u8 op, .int .i64 col] 34 := by rw [← hgx]; exact zx
  rw [hgx] at ⊢
  clear hgx hgr hgn
  by_cases ho1 : op = 1
  ·
    subst ho1
    have hr : res = (numG (rn : Int), 0) := by rw [← HRES.out, agg_count _ _ (by rw [List.length_map, HN.out.1]; omega), List.length_map, HN.out.1]
    have c0 := zx.cell 0 rfl
    have fn1 := zn.free 1
    have gn1 := zn.cell 1 rfl
    have ln := zn.lt
    go_upto_region 4 with fail
    have zn2 := zn.set 1 (.int .i64 (rn : Int))
    have zr2 := zr.off (p := ⟨gn, 1, none⟩) (by have := HG.out; show gr ≠ gn; omega) (.int .i64 (rn : Int))
    have b2 := BB.setCell (p := ⟨gn, 1, none⟩) (by have := HG.out; show w.heap.size ≤ gn; omega) (.int .i64 (rn : Int))
    clear c0 fn1 gn1 ln zn zr zx
    generalize World.setCell _ ⟨gn, 1, none⟩ (.int .i64 (rn : Int)) = wB at zn2 zr2 b2 ⊢
    have n0 := zn2.cell 0 rfl
    have n1 := zn2.cell 1 rfl
    have n2 := zn2.cell 2 rfl
    have fr0 := zr2.free 0
    have gr0 := zr2.cell 0 rfl
    have fr1 := zr2.free 1
    have gr1 := zr2.cell 1 rfl
    have fr2 := zr2.free 2
    have gr2 := zr2.cell 2 rfl
    have lr := zr2.lt
    go_wp2_with (first | (at_make; refine Stop.un ?_) | (at_builtin; refine Stop.un ?_) | (with_reducible refine Stop.conv 22 9 ?_) | (with_reducible refine Stop.conv 9 22 ?_))
    have RQ := zr2.set3 (.int .u8 2) (.int .i64 (rn : Int)) (.string ⟨#[]⟩)
    have rq0 := RQ.cell 0 rfl
    have rq1 := RQ.cell 1 rfl
    have rq2 := RQ.cell 2 rfl
    have rql := RQ.lt
    exact bodyPost_ret (v := .tuple #[.agg #[.int .u8 2, .int .i64 (rn : Int), .string ⟨#[]⟩], .int .i64 0]) (by simp [results, Try.results34, go_sem, rq0, rq1, rq2]) rfl ⟨by first | rfl | (rw [hr]; rfl), below_set3 b2 _ _ _ (by have := HG.out; omega)⟩
  ·
    have hnb := zn.lt
    obtain ⟨cc, rfl, hcn⟩ := HN.out.2.1.resolve_left ho1
    have HC := Lib.hid hcn
    clear hcn
    have hq1 : (op == 1) = false := by simpa using ho1
    have c0 := zx.cell 0 rfl
    go_upto_region 7 with fail
    clear c0 hq1
    replace zx := zx.alloc (.cells #[.int .u8 0, .int .i64 0, .string ⟨#[]⟩] 38)
    replace zr := zr.alloc (.cells #[.int .u8 0, .int .i64 0, .string ⟨#[]⟩] 38)
    replace zn := zn.alloc (.cells #[.int .u8 0, .int .i64 0, .string ⟨#[]⟩] 38)
    have zb := At.new wA #[.int .u8 0, .int .i64 0, .string ⟨#[]⟩] 38
    have b0 := BB.alloc (by have := BB.size; omega) (.cells #[.int .u8 0, .int .i64 0, .string ⟨#[]⟩] 38)
    skip
    generalize wA.alloc (.cells #[.int .u8 0, .int .i64 0, .string ⟨#[]⟩] 38) = wB at zx zr zn zb b0 ⊢
    obtain ⟨gb, hgb⟩ : ∃ g, wA.heap.size = g := ⟨_, rfl⟩
    have HGB : Hid (gn < gb) := Lib.hid (by omega)
    rw [hgb] at zb ⊢
    clear hgb BB hnb
    go_wp2_with (first | (at_make; refine Stop.un ?_) | (at_builtin; refine Stop.un ?_) | (with_reducible refine Stop.conv 22 9 ?_) | (with_reducible refine Stop.conv 9 22 ?_))
    go_loopw [9, 7] (fun iv sv wr => ∃ (j : Nat) (sa : Option Addr) (k cs : Nat) (bk bn : Int) (bs : ByteArray), j ≤ rn ∧ k ≤ j ∧ iv = .int .i64 (j : Int) ∧ sv = .slice sa k cs ∧ At wr gx #[.int .u8 op, .int .i64 (cc : Int)] 34 ∧ At wr gr #[.int .u8 0, .int .i64 0, .string ⟨#[]⟩] 38 ∧ At wr gn #[.int .u8 2, .int .i64 0, .string ⟨#[]⟩] 38 ∧ At wr gb #[.int .u8 bk, .int .i64 bn, .string bs] 38 ∧ OwnRs w wr (.slice sa k cs) k (someW (rows.take j) cc) ∧ Hid (bestB op (valW (rows.take j) cc) = ⟨bk, bn, bs⟩ ∧ ∀ q, (Value.slice sa k cs).ownBlock = some q → gb < q)) (fun iv _ _ => rn - (intOf iv).toNat)
    case atStart => exact ⟨0, none, 0, 0, 0, 0, ⟨#[]⟩, Nat.zero_le _, Nat.le_refl _, rfl, rfl, zx, zr, zn, zb, Own.nil _ _ b0, Lib.hid ⟨rfl, fun q h => by cases h⟩⟩
    case round =>
      clear zx zr zn zb b0
      obtain ⟨j, sa, k, cs, bk, bn, bs, hj, hkj, rfl, rfl, zx, zr, zn, zb, O, HB⟩ := hrel
      by_cases hlt : j < rn
      ·
        have hjl : j < rows.length := by have := HN.out.1; omega
        have t2 := HN.out.2.2.1.mono (Own.below O)
        obtain ⟨b, o, rfl⟩ := t2.cs.addr (by rw [rwcells_length]; omega)
        have x0 := t2.at hjl
        have o1 := t2.ok rows[j] (List.getElem_mem _)
        have hcn := HC.out rows[j] (List.getElem_mem _)
        have HT := Lib.hid (And.intro (someW_snoc rows cc j hjl) (bestW_snoc op rows cc j hjl))
        generalize rows[j] = r at x0 o1 hcn HT
        have hcr : cc < r.l.length := by have := o1.len; omega
        have ocs := o1.cs
        obtain ⟨vb, vo, hra⟩ := ocs.addr (by rw [vcells_length]; omega)
        have HRA := Lib.hid hra
        rw [hra] at ocs
        obtain ⟨q0, q1, q2⟩ := ocs.vat hcr
        rw [atV_in hcr] at HT
        rw [hra] at x0
        have hrle := o1.le
        have hrmx : r.cap ≤ 9223372036854775807 := o1.max
        generalize r.l[cc] = v at q0 q1 q2 HT
        obtain ⟨vk, vn, vs⟩ := v
        simp only at q0 q1 q2 HT
        have hlec := owns_le O.1
        have hmxc : cs ≤ 9223372036854775807 := owns_max O.1
        have xl := lt_cell x0
        have ql := lt_cell q0
        have ql1 := lt_cell q1
        have ql2 := lt_cell q2
        have hnone : ∀ q : Nat, some q ≠ none := fun q h => by cases h
        clear hjl t2 o1 ocs hcr hra
        go_upto_region 10 with fail
        have zx_b : gx < wr.heap.size := zx.lt
        have HSZ : Hid (wr.heap.size ≤ wr.heap.size) := Lib.hid (Nat.le_refl _)
        refine mix_startX (wr.heap.size) none 10 rfl (by kernel_rfl) ?_
        intro xq hxq
        replace zx := At.mono zx hxq
        replace zr := At.mono zr hxq
        replace zn := At.mono zn hxq
        replace zb := At.mono zb hxq
        replace O := Own.keep O hxq
        replace x0 := Ext.cell hxq x0
        replace q0 := Ext.cell hxq q0
        replace q1 := Ext.cell hxq q1
        replace q2 := Ext.cell hxq q2
        replace HSZ := Lib.hid (Nat.le_trans (Hid.out HSZ) (Below.size hxq))
        have hxB := hxq
        clear hxq
        refine mix_quiet (Keeps.rx (wr.heap.size) none) 0 rfl (by kernel_rfl) rfl ?_
        intro ι U hne hU
        go_big_quiet_op
        clear hU hne U ι
        show wpAnyM _ _ _ _ _ _ _ _ _
        refine mix_quiet (Keeps.rx (wr.heap.size) none) 1 rfl (by kernel_rfl) rfl ?_
        intro ι U hne hU
        go_big_quiet_op
        clear hU hne U ι
        show wpAnyM _ _ _ _ _ _ _ _ _
        refine mix_quiet (Keeps.rx (wr.heap.size) none) 2 rfl (by kernel_rfl) rfl ?_
        intro ι U hne hU
        go_big_quiet_op
        clear hU hne U ι
        show wpAnyM _ _ _ _ _ _ _ _ _
        refine mix_quiet (Keeps.rx (wr.heap.size) none) 3 rfl (by kernel_rfl) rfl ?_
        intro ι U hne hU
        have hcw0 := fun ii => (RX.cell (hU ii) xl (hnone _) x0)
        have hcw1 := fun ii => (RX.cell (hU ii) ql (hnone _) q0)
        have hcw2 := fun ii => (RX.cell (hU ii) ql1 (hnone _) q1)
        have hcw3 := fun ii => (RX.cell (hU ii) ql2 (hnone _) q2)
        have hcw4 := fun ii => (RX.at (hU ii) zx zx_b).cell 1 rfl
        go_big_quiet_op
        clear hU hne hcw0 hcw1 hcw2 hcw3 hcw4 U ι
        show wpAnyM _ _ _ _ _ _ _ _ _
        refine mix_quiet (Keeps.rx (wr.heap.size) none) 4 rfl (by kernel_rfl) rfl ?_
        intro ι U hne hU
        go_big_quiet_op
        clear hU hne U ι
        show wpAnyM _ _ _ _ _ _ _ _ _
        refine mix_quiet (Keeps.rx (wr.heap.size) none) 5 rfl (by kernel_rfl) rfl ?_
        intro ι U hne hU
        have hcw0 := fun ii => (RX.cell (hU ii) xl (hnone _) x0)
        have hcw1 := fun ii => (RX.cell (hU ii) ql (hnone _) q0)
        have hcw2 := fun ii => (RX.cell (hU ii) ql1 (hnone _) q1)
        have hcw3 := fun ii => (RX.cell (hU ii) ql2 (hnone _) q2)
        have hcw4 := fun ii => (RX.at (hU ii) zx zx_b).cell 1 rfl
        go_big_quiet_op
        clear hU hne hcw0 hcw1 hcw2 hcw3 hcw4 U ι
        show wpAnyM _ _ _ _ _ _ _ _ _
        refine mix_quiet (Keeps.rx (wr.heap.size) none) 6 rfl (by kernel_rfl) rfl ?_
        intro ι U hne hU
        go_big_quiet_op
        clear hU hne U ι
        show wpAnyM _ _ _ _ _ _ _ _ _
        refine mix_quiet (Keeps.rx (wr.heap.size) none) 7 rfl (by kernel_rfl) rfl ?_
        intro ι U hne hU
        have hcw0 := fun ii => (RX.cell (hU ii) xl (hnone _) x0)
        have hcw1 := fun ii => (RX.cell (hU ii) ql (hnone _) q0)
        have hcw2 := fun ii => (RX.cell (hU ii) ql1 (hnone _) q1)
        have hcw3 := fun ii => (RX.cell (hU ii) ql2 (hnone _) q2)
        have hcw4 := fun ii => (RX.at (hU ii) zx zx_b).cell 1 rfl
        go_big_quiet_op
        clear hU hne hcw0 hcw1 hcw2 hcw3 hcw4 U ι
        show wpAnyM _ _ _ _ _ _ _ _ _
        refine mix_any 8 rfl (by kernel_rfl) rfl ?_
        go_wp2_with (first | (at_make; refine Stop.un ?_) | (at_builtin; refine Stop.un ?_) | (with_reducible refine Stop.conv 22 9 ?_) | (with_reducible refine Stop.conv 9 22 ?_))
        have zv := At.new xq #[.int .u8 0, .int .i64 0, .string ⟨#[]⟩] 38
        have hgv := HSZ.out
        have HGV : Hid (gb < xq.heap.size ∧ (Value.slice sa k cs).ownBlock ≠ some xq.heap.size) := Lib.hid ⟨zb.lt, fun e => by have := Own.lt O _ e; omega⟩
        have bqr := (Below.refl xq.heap.size xq).alloc (Nat.le_refl _) (.cells #[.int .u8 0, .int .i64 0, .string ⟨#[]⟩] 38)
        refine MixPost.mk (RX.ext bqr (Hid.out HSZ)) ?_
        replace zx := At.mono zx bqr
        replace zr := At.mono zr bqr
        replace zn := At.mono zn bqr
        replace zb := At.mono zb bqr
        replace O := Own.keep O bqr
        replace x0 := Ext.cell bqr x0
        replace q0 := Ext.cell bqr q0
        replace q1 := Ext.cell bqr q1
        replace q2 := Ext.cell bqr q2
        replace HSZ := Lib.hid (Nat.le_trans (Hid.out HSZ) (Below.size bqr))
        clear bqr
        generalize xq.alloc (.cells #[.int .u8 0, .int .i64 0, .string ⟨#[]⟩] 38) = wv at zv zx zr zn zb O x0 q0 q1 q2 HSZ ⊢
        generalize xq.heap.size = gv at zv hgv HGV ⊢
        refine mix_any 9 rfl (by kernel_rfl) rfl ?_
        have fq0 := zv.free 0
        have gq0 := zv.cell 0 rfl
        have fq1 := zv.free 1
        have gq1 := zv.cell 1 rfl
        have fq2 := zv.free 2
        have gq2 := zv.cell 2 rfl
        have lq := zv.lt
        go_wp2_with (first | (at_make; refine Stop.un ?_) | (at_builtin; refine Stop.un ?_) | (with_reducible refine Stop.conv 22 9 ?_) | (with_reducible refine Stop.conv 9 22 ?_))
        refine MixPost.mk (RX.set3 _ _ _ _  (by first | omega | (simp only [Nat.add_assoc] <;> omega))) ?_
        clear lq fq0 gq0 fq1 gq1 fq2 gq2
        refine mix_end (by kernel_rfl) ?_
        replace zv := zv.set3 (.int .u8 vk) (.int .i64 vn) (.string vs)
        replace zx := zx.off3 (.int .u8 vk) (.int .i64 vn) (.string vs) (show gx ≠ gv by have := HG.out; have := HGB.out; have := HGV.out; omega)
        replace zr := zr.off3 (.int .u8 vk) (.int .i64 vn) (.string vs) (show gr ≠ gv by have := HG.out; have := HGB.out; have := HGV.out; omega)
        replace zn := zn.off3 (.int .u8 vk) (.int .i64 vn) (.string vs) (show gn ≠ gv by have := HG.out; have := HGB.out; have := HGV.out; omega)
        replace zb := zb.off3 (.int .u8 vk) (.int .i64 vn) (.string vs) (show gb ≠ gv by have := HG.out; have := HGB.out; have := HGV.out; omega)
        replace O := Own.cs_put O vk vn vs (g := gv) (by have := HG.out; have := HGB.out; have := HGV.out; omega) HGV.out.2
        have hx0 : World.cell? (((wv.setCell ⟨gv, 0, none⟩ (.int .u8 vk)).setCell ⟨gv, 1, none⟩ (.int .i64 vn)).setCell ⟨gv, 2, none⟩ (.string vs)) ⟨b, o + j, none⟩ = some (.slice r.a r.n r.cap) := by
          rw [HRA.out]
          have hbv : b ≠ gv := by have : b < wr.heap.size := xl; omega
          exact x0off x0 (by have : b < wr.heap.size := xl; show b ≠ gv; omega) vk vn vs
        clear x0 q0 q1 q2 xl ql ql1 ql2 hnone HSZ zx_b hxB hgv HRA
        have x0 := hx0
        clear hx0
        generalize (((wv.setCell ⟨gv, 0, none⟩ (.int .u8 vk)).setCell ⟨gv, 1, none⟩ (.int .i64 vn)).setCell ⟨gv, 2, none⟩ (.string vs)) = wD at zv zx zr zn zb O x0 ⊢
        have d0 := zv.cell 0 rfl
        by_cases hvk : vk = 0
        ·
          subst hvk
          have HS1 := Lib.hid (HT.out.1.trans (if_pos rfl))
          have HB1 : Hid (bestB op (valW (rows.take (j + 1)) cc) = ⟨bk, bn, bs⟩ ∧ ∀ q, (Value.slice sa k cs).ownBlock = some q → gb < q) := Lib.hid ⟨by rw [HT.out.2, HB.out.1]; exact if_pos rfl, HB.out.2⟩
          rw [← HS1.out] at O
          clear HT HB HS1 x0 HGV
          go_wp2_with (first | (at_make; refine Stop.un ?_) | (at_builtin; refine Stop.un ?_) | (with_reducible refine Stop.conv 22 9 ?_) | (with_reducible refine Stop.conv 9 22 ?_))
          clear d0 zv
          go_roundw
          case rel => exact ⟨j + 1, sa, k, cs, bk, bn, bs, by omega, by omega, by go_num, rfl, zx, zr, zn, zb, O, HB1⟩
          case measure => simp [intOf]; omega
        ·
          have hk0 : (vk == 0) = false := by simpa using hvk
          have HS1 := Lib.hid (HT.out.1.trans (if_neg hvk))
          go_wp2_with (first | (at_make; refine Stop.un ?_) | (at_builtin; refine Stop.un ?_) | (with_reducible refine Stop.conv 22 9 ?_) | (with_reducible refine Stop.conv 9 22 ?_))
          have HLT := Lib.hid zb.lt
          refine Stop.mk (app_rw1 (r := r) w _ _ rfl rfl O rfl rfl (by omega) ?_)
          intro a5 c5 w5 O5 g5 k5
          clear d0 x0
          rw [← HS1.out] at O5
          replace zx := zx.grownK g5 (fun e => by have := HB.out.2 _ e; have := HG.out; have := HGB.out; omega)
          replace zr := zr.grownK g5 (fun e => by have := HB.out.2 _ e; have := HG.out; have := HGB.out; omega)
          replace zn := zn.grownK g5 (fun e => by have := HB.out.2 _ e; have := HG.out; have := HGB.out; omega)
          replace zb := zb.grownK g5 (fun e => by have := HB.out.2 _ e; have := HG.out; have := HGB.out; omega)
          replace zv := zv.grownK g5 HGV.out.2
          have HO5 : Hid (∀ q, (Value.slice a5 (k + 1) c5).ownBlock = some q → gb < q) := Lib.hid (fun q e => by
            rcases k5 q e with h | h
            · exact HB.out.2 q h
            · have h2 := HGV.out.1
              have h3 := HLT.out
              omega)
          have HT2 : Hid (bestB op (valW (rows.take (j + 1)) cc) = if bk = 0 ∨ (op = 4 ∧ cmpV ⟨vk, vn, vs⟩ ⟨bk, bn, bs⟩ < 0) ∨ (op = 5 ∧ 0 < cmpV ⟨vk, vn, vs⟩ ⟨bk, bn, bs⟩) then ⟨vk, vn, vs⟩ else ⟨bk, bn, bs⟩) := Lib.hid (by rw [HT.out.2, HB.out.1]; exact if_neg hvk)
          clear O g5 k5 HT HS1 HB hk0 hvk
          have d0 := zv.cell 0 rfl
          have e0 := zb.cell 0 rfl
          have d1 := zv.cell 1 rfl
          have e1 := zb.cell 1 rfl
          have d2 := zv.cell 2 rfl
          have e2 := zb.cell 2 rfl
          go_wp2_with (first | (at_make; refine Stop.un ?_) | (at_builtin; refine Stop.un ?_) | (with_reducible refine Stop.conv 22 9 ?_) | (with_reducible refine Stop.conv 9 22 ?_))
          refine (rcompare_any ⟨vk, vn, vs⟩ ⟨bk, bn, bs⟩ _).mono ?_
          rintro e wC ⟨rfl, bt⟩
          clear d0 d1 d2 e0 e1 e2
          replace zx := At.mono zx bt
          replace zr := At.mono zr bt
          replace zn := At.mono zn bt
          replace zb := At.mono zb bt
          replace zv := At.mono zv bt
          replace O5 := Own.keep O5 bt
          clear bt
          generalize cmpV ⟨vk, vn, vs⟩ ⟨bk, bn, bs⟩ = c at HT2 ⊢
          have x0 := zx.cell 0 rfl
          have y0 := zb.cell 0 rfl
          by_cases hbk : bk = 0
          ·
            have HT3 := Lib.hid (HT2.out.trans (if_pos (by exact .inl hbk)))
            clear HT2
            have hb0 : (bk == 0) = true := by simpa using hbk
            clear hbk
            have d0 := zv.cell 0 rfl
            have fb0 := zb.free 0
            have gb0 := zb.cell 0 rfl
            have d1 := zv.cell 1 rfl
            have fb1 := zb.free 1
            have gb1 := zb.cell 1 rfl
            have d2 := zv.cell 2 rfl
            have fb2 := zb.free 2
            have gb2 := zb.cell 2 rfl
            have lb := zb.lt
            go_upto_region 9 with fail
            have HB3 : Hid (bestB op (valW (rows.take (j + 1)) cc) = ⟨vk, vn, vs⟩ ∧ ∀ q, (Value.slice a5 (k + 1) c5).ownBlock = some q → gb < q) := Lib.hid ⟨HT3.out, HO5.out⟩
            replace zb := zb.set3 (.int .u8 vk) (.int .i64 vn) (.string vs)
            replace zx := zx.off3 (.int .u8 vk) (.int .i64 vn) (.string vs) (show gx ≠ gb by have := HG.out; have := HGB.out; omega)
            replace zr := zr.off3 (.int .u8 vk) (.int .i64 vn) (.string vs) (show gr ≠ gb by have := HG.out; have := HGB.out; omega)
            replace zn := zn.off3 (.int .u8 vk) (.int .i64 vn) (.string vs) (show gn ≠ gb by have := HG.out; have := HGB.out; omega)
            replace O5 := Own.cs_put O5 vk vn vs (g := gb) (by have := HG.out; have := HGB.out; omega) (fun e => by have := HO5.out _ e; omega)
            clear x0 y0 d0 d1 d2 fb0 fb1 fb2 gb0 gb1 gb2 lb zv HT3
            generalize (((wC.setCell ⟨gb, 0, none⟩ (.int .u8 vk)).setCell ⟨gb, 1, none⟩ (.int .i64 vn)).setCell ⟨gb, 2, none⟩ (.string vs)) = wE at zx zr zn zb O5 ⊢
            go_wp2_with (first | (at_make; refine Stop.un ?_) | (at_builtin; refine Stop.un ?_) | (with_reducible refine Stop.conv 22 9 ?_) | (with_reducible refine Stop.conv 9 22 ?_))
            go_roundw
            case rel => exact ⟨j + 1, a5, k + 1, c5, vk, vn, vs, by omega, by omega, by go_num, rfl, zx, zr, zn, zb, O5, HB3⟩
            case measure => simp [intOf]; omega
          ·
            have hb0 : (bk == 0) = false := by simpa using hbk
            by_cases h4 : op = 4
            ·
              have q4 : (op == 4) = true := by simpa using h4
              have q5 : (op == 5) = false := by rw [h4]; decide
              by_cases hc : c < 0
              ·
                have HT3 := Lib.hid (HT2.out.trans (if_pos (by exact .inr (.inl ⟨h4, hc⟩))))
                clear HT2
                have dc : decide (c < 0) = true := decide_eq_true hc
                clear hc hbk h4
                have d0 := zv.cell 0 rfl
                have fb0 := zb.free 0
                have gb0 := zb.cell 0 rfl
                have d1 := zv.cell 1 rfl
                have fb1 := zb.free 1
                have gb1 := zb.cell 1 rfl
                have d2 := zv.cell 2 rfl
                have fb2 := zb.free 2
                have gb2 := zb.cell 2 rfl
                have lb := zb.lt
                go_upto_region 9 with fail
                have HB3 : Hid (bestB op (valW (rows.take (j + 1)) cc) = ⟨vk, vn, vs⟩ ∧ ∀ q, (Value.slice a5 (k + 1) c5).ownBlock = some q → gb < q) := Lib.hid ⟨HT3.out, HO5.out⟩
                replace zb := zb.set3 (.int .u8 vk) (.int .i64 vn) (.string vs)
                replace zx := zx.off3 (.int .u8 vk) (.int .i64 vn) (.string vs) (show gx ≠ gb by have := HG.out; have := HGB.out; omega)
                replace zr := zr.off3 (.int .u8 vk) (.int .i64 vn) (.string vs) (show gr ≠ gb by have := HG.out; have := HGB.out; omega)
                replace zn := zn.off3 (.int .u8 vk) (.int .i64 vn) (.string vs) (show gn ≠ gb by have := HG.out; have := HGB.out; omega)
                replace O5 := Own.cs_put O5 vk vn vs (g := gb) (by have := HG.out; have := HGB.out; omega) (fun e => by have := HO5.out _ e; omega)
                clear x0 y0 d0 d1 d2 fb0 fb1 fb2 gb0 gb1 gb2 lb zv HT3
                generalize (((wC.setCell ⟨gb, 0, none⟩ (.int .u8 vk)).setCell ⟨gb, 1, none⟩ (.int .i64 vn)).setCell ⟨gb, 2, none⟩ (.string vs)) = wE at zx zr zn zb O5 ⊢
                go_wp2_with (first | (at_make; refine Stop.un ?_) | (at_builtin; refine Stop.un ?_) | (with_reducible refine Stop.conv 22 9 ?_) | (with_reducible refine Stop.conv 9 22 ?_))
                go_roundw
                case rel => exact ⟨j + 1, a5, k + 1, c5, vk, vn, vs, by omega, by omega, by go_num, rfl, zx, zr, zn, zb, O5, HB3⟩
                case measure => simp [intOf]; omega
              ·
                have HT3 := Lib.hid (HT2.out.trans (if_neg (by rintro (h | ⟨_, h⟩ | ⟨h, _⟩) <;> omega)))
                clear HT2
                have dc : decide (c < 0) = false := decide_eq_false hc
                clear hc hbk h4
                have HB3 : Hid (bestB op (valW (rows.take (j + 1)) cc) = ⟨bk, bn, bs⟩ ∧ ∀ q, (Value.slice a5 (k + 1) c5).ownBlock = some q → gb < q) := Lib.hid ⟨HT3.out, HO5.out⟩
                go_upto_region 9 with fail
                clear x0 y0 zv HT3
                go_wp2_with (first | (at_make; refine Stop.un ?_) | (at_builtin; refine Stop.un ?_) | (with_reducible refine Stop.conv 22 9 ?_) | (with_reducible refine Stop.conv 9 22 ?_))
                go_roundw
                case rel => exact ⟨j + 1, a5, k + 1, c5, bk, bn, bs, by omega, by omega, by go_num, rfl, zx, zr, zn, zb, O5, HB3⟩
                case measure => simp [intOf]; omega
            ·
              have q4 : (op == 4) = false := by simpa using h4
              by_cases h5 : op = 5
              ·
                have q5 : (op == 5) = true := by simpa using h5
                by_cases hc : 0 < c
                ·
                  have HT3 := Lib.hid (HT2.out.trans (if_pos (by exact .inr (.inr ⟨h5, hc⟩))))
                  clear HT2
                  have dc : decide (0 < c) = true := decide_eq_true hc
                  clear hc hbk h4 h5
                  have d0 := zv.cell 0 rfl
                  have fb0 := zb.free 0
                  have gb0 := zb.cell 0 rfl
                  have d1 := zv.cell 1 rfl
                  have fb1 := zb.free 1
                  have gb1 := zb.cell 1 rfl
                  have d2 := zv.cell 2 rfl
                  have fb2 := zb.free 2
                  have gb2 := zb.cell 2 rfl
                  have lb := zb.lt
                  go_upto_region 9 with fail
                  have HB3 : Hid (bestB op (valW (rows.take (j + 1)) cc) = ⟨vk, vn, vs⟩ ∧ ∀ q, (Value.slice a5 (k + 1) c5).ownBlock = some q → gb < q) := Lib.hid ⟨HT3.out, HO5.out⟩
                  replace zb := zb.set3 (.int .u8 vk) (.int .i64 vn) (.string vs)
                  replace zx := zx.off3 (.int .u8 vk) (.int .i64 vn) (.string vs) (show gx ≠ gb by have := HG.out; have := HGB.out; omega)
                  replace zr := zr.off3 (.int .u8 vk) (.int .i64 vn) (.string vs) (show gr ≠ gb by have := HG.out; have := HGB.out; omega)
                  replace zn := zn.off3 (.int .u8 vk) (.int .i64 vn) (.string vs) (show gn ≠ gb by have := HG.out; have := HGB.out; omega)
                  replace O5 := Own.cs_put O5 vk vn vs (g := gb) (by have := HG.out; have := HGB.out; omega) (fun e => by have := HO5.out _ e; omega)
                  clear x0 y0 d0 d1 d2 fb0 fb1 fb2 gb0 gb1 gb2 lb zv HT3
                  generalize (((wC.setCell ⟨gb, 0, none⟩ (.int .u8 vk)).setCell ⟨gb, 1, none⟩ (.int .i64 vn)).setCell ⟨gb, 2, none⟩ (.string vs)) = wE at zx zr zn zb O5 ⊢
                  go_wp2_with (first | (at_make; refine Stop.un ?_) | (at_builtin; refine Stop.un ?_) | (with_reducible refine Stop.conv 22 9 ?_) | (with_reducible refine Stop.conv 9 22 ?_))
                  go_roundw
                  case rel => exact ⟨j + 1, a5, k + 1, c5, vk, vn, vs, by omega, by omega, by go_num, rfl, zx, zr, zn, zb, O5, HB3⟩
                  case measure => simp [intOf]; omega
                ·
                  have HT3 := Lib.hid (HT2.out.trans (if_neg (by rintro (h | ⟨h, _⟩ | ⟨_, h⟩) <;> omega)))
                  clear HT2
                  have dc : decide (0 < c) = false := decide_eq_false hc
                  clear hc hbk h4 h5
                  have HB3 : Hid (bestB op (valW (rows.take (j + 1)) cc) = ⟨bk, bn, bs⟩ ∧ ∀ q, (Value.slice a5 (k + 1) c5).ownBlock = some q → gb < q) := Lib.hid ⟨HT3.out, HO5.out⟩
                  go_upto_region 9 with fail
                  clear x0 y0 zv HT3
                  go_wp2_with (first | (at_make; refine Stop.un ?_) | (at_builtin; refine Stop.un ?_) | (with_reducible refine Stop.conv 22 9 ?_) | (with_reducible refine Stop.conv 9 22 ?_))
                  go_roundw
                  case rel => exact ⟨j + 1, a5, k + 1, c5, bk, bn, bs, by omega, by omega, by go_num, rfl, zx, zr, zn, zb, O5, HB3⟩
                  case measure => simp [intOf]; omega
              ·
                have q5 : (op == 5) = false := by simpa using h5
                have HT3 := Lib.hid (HT2.out.trans (if_neg (by rintro (h | ⟨h, _⟩ | ⟨h, _⟩) <;> omega)))
                clear HT2
                clear hbk h4 h5
                have HB3 : Hid (bestB op (valW (rows.take (j + 1)) cc) = ⟨bk, bn, bs⟩ ∧ ∀ q, (Value.slice a5 (k + 1) c5).ownBlock = some q → gb < q) := Lib.hid ⟨HT3.out, HO5.out⟩
                go_upto_region 9 with fail
                clear x0 y0 zv HT3
                go_wp2_with (first | (at_make; refine Stop.un ?_) | (at_builtin; refine Stop.un ?_) | (with_reducible refine Stop.conv 22 9 ?_) | (with_reducible refine Stop.conv 9 22 ?_))
                go_roundw
                case rel => exact ⟨j + 1, a5, k + 1, c5, bk, bn, bs, by omega, by omega, by go_num, rfl, zx, zr, zn, zb, O5, HB3⟩
                case measure => simp [intOf]; omega
      ·
        obtain rfl : j = rn := by omega
        have hTK : rows.take j = rows := List.take_of_length_le (by have := HN.out.1; omega)
        rw [hTK] at O HB
        clear hTK
        have hl := OwnRs.length O
        have HL := Lib.hid hl
        have hlec := owns_le O.1
        have hmxc : cs ≤ 9223372036854775807 := owns_max O.1
        clear hl
        by_cases h2 : op = 2
        ·
          subst h2
          have hr : res = (numG (k : Int), 0) := by rw [← HRES.out, agg_2 rows cc (by rw [HN.out.1]; omega) HN.out.2.2.2, HL.out]
          have b0 := Own.below O
          clear O HB
          have c0 := zx.cell 0 rfl
          have fn1 := zn.free 1
          have gn1 := zn.cell 1 rfl
          have ln := zn.lt
          go_upto_region 18 with fail
          have zn2 := zn.set 1 (.int .i64 (k : Int))
          have zr2 := zr.off (p := ⟨gn, 1, none⟩) (by have := HG.out; show gr ≠ gn; omega) (.int .i64 (k : Int))
          have b2 := b0.setCell (p := ⟨gn, 1, none⟩) (by have := HG.out; show w.heap.size ≤ gn; omega) (.int .i64 (k : Int))
          clear c0 fn1 gn1 ln zn zr zx
          generalize World.setCell _ ⟨gn, 1, none⟩ (.int .i64 (k : Int)) = wB at zn2 zr2 b2 ⊢
          have n0 := zn2.cell 0 rfl
          have n1 := zn2.cell 1 rfl
          have n2 := zn2.cell 2 rfl
          have fr0 := zr2.free 0
          have gr0 := zr2.cell 0 rfl
          have fr1 := zr2.free 1
          have gr1 := zr2.cell 1 rfl
          have fr2 := zr2.free 2
          have gr2 := zr2.cell 2 rfl
          have lr := zr2.lt
          go_wp2_with (first | (at_make; refine Stop.un ?_) | (at_builtin; refine Stop.un ?_) | (with_reducible refine Stop.conv 22 9 ?_) | (with_reducible refine Stop.conv 9 22 ?_))
          have RQ := zr2.set3 (.int .u8 2) (.int .i64 (k : Int)) (.string ⟨#[]⟩)
          have rq0 := RQ.cell 0 rfl
          have rq1 := RQ.cell 1 rfl
          have rq2 := RQ.cell 2 rfl
          have rql := RQ.lt
          exact bodyPost_ret (v := .tuple #[.agg #[.int .u8 2, .int .i64 (k : Int), .string ⟨#[]⟩], .int .i64 0]) (by simp [results, Try.results34, go_sem, rq0, rq1, rq2]) rfl ⟨by first | rfl | (rw [hr]; rfl), below_set3 b2 _ _ _ (by have := HG.out; omega)⟩
        ·
          by_cases h3 : op = 3
          ·
            subst h3
            obtain ⟨A1, A2, A3⟩ := agg_3 rows cc (by rw [HN.out.1]; omega) HN.out.2.2.2
            rw [HL.out, HRES.out] at A1 A2 A3
            have HA := Lib.hid (And.intro A1 (And.intro A2 A3))
            clear A1 A2 A3
            have c0 := zx.cell 0 rfl
            have c1 := zx.cell 1 rfl
            by_cases hk : k = 0
            ·
              have hr := HA.out.1 hk
              have hk2 : ((k : Int) == 0) = true := by simpa using hk
              have b0 := Own.below O
              clear O HB HA hk
              have fr0 := zr.free 0
              have gr0 := zr.cell 0 rfl
              have fr1 := zr.free 1
              have gr1 := zr.cell 1 rfl
              have fr2 := zr.free 2
              have gr2 := zr.cell 2 rfl
              have lr := zr.lt
              go_wp2_with (first | (at_make; refine Stop.un ?_) | (at_builtin; refine Stop.un ?_) | (with_reducible refine Stop.conv 22 9 ?_) | (with_reducible refine Stop.conv 9 22 ?_))
              have RQ := zr.set3 (.int .u8 0) (.int .i64 0) (.string ⟨#[]⟩)
              have rq0 := RQ.cell 0 rfl
              have rq1 := RQ.cell 1 rfl
              have rq2 := RQ.cell 2 rfl
              have rql := RQ.lt
              exact bodyPost_ret (v := .tuple #[.agg #[.int .u8 0, .int .i64 0, .string ⟨#[]⟩], .int .i64 0]) (by simp [results, Try.results34, go_sem, rq0, rq1, rq2]) rfl ⟨by first | rfl | (rw [hr]; rfl), below_set3 b0 _ _ _ (by have := HG.out; omega)⟩
            ·
              have hk2 : ((k : Int) == 0) = false := by simpa using hk
              have HA2 := Lib.hid (And.intro (HA.out.2.1 hk) (HA.out.2.2 hk))
              have hmem : ∀ r ∈ someW rows cc, r ∈ rows := fun r hr => (List.mem_filter.1 hr).1
              have HSM := Lib.hid (rsum_any sa k cs (someW rows cc) cc wr ⟨Own.cs O, fun r hr => (HN.out.2.2.1.mono (Own.below O)).ok r (hmem r hr)⟩ HL.out hlec hmxc (by omega) (fun r hr => HC.out r (hmem r hr)) (fun z hz => by
                obtain ⟨r, hr, rfl⟩ := List.mem_map.1 hz
                exact val_in HN.out.2.2.2 _ (List.mem_map_of_mem (f := fun r : Rw => atV r.l (cc : Int)) (hmem r hr))))
              have b0 := Own.below O
              clear O HB HA hmem hk
              go_wp2_with (first | (at_make; refine Stop.un ?_) | (at_builtin; refine Stop.un ?_) | (with_reducible refine Stop.conv 22 9 ?_) | (with_reducible refine Stop.conv 9 22 ?_))
              refine HSM.out.mono ?_
              rintro e w5 ⟨n, q, rfl, hq1, hq2, bt⟩
              replace b0 := b0.next bt
              replace zx := At.mono zx bt
              replace zr := At.mono zr bt
              replace zn := At.mono zn bt
              clear bt HSM c0 c1
              cases q with
              | false =>
                have hr := HA2.out.2 (fun h => by cases hq1.2 h)
                clear HA2 hq1 hq2
                have fr0 := zr.free 0
                have gr0 := zr.cell 0 rfl
                have fr1 := zr.free 1
                have gr1 := zr.cell 1 rfl
                have fr2 := zr.free 2
                have gr2 := zr.cell 2 rfl
                have lr := zr.lt
                go_wp2_with (first | (at_make; refine Stop.un ?_) | (at_builtin; refine Stop.un ?_) | (with_reducible refine Stop.conv 22 9 ?_) | (with_reducible refine Stop.conv 9 22 ?_))
                have RQ := zr.set3 (.int .u8 0) (.int .i64 0) (.string ⟨#[]⟩)
                have rq0 := RQ.cell 0 rfl
                have rq1 := RQ.cell 1 rfl
                have rq2 := RQ.cell 2 rfl
                have rql := RQ.lt
                exact bodyPost_ret (v := .tuple #[.agg #[.int .u8 0, .int .i64 0, .string ⟨#[]⟩], .int .i64 220]) (by simp [results, Try.results34, go_sem, rq0, rq1, rq2]) rfl ⟨by first | rfl | (rw [hr]; rfl), below_set3 b0 _ _ _ (by have := HG.out; omega)⟩
              | true =>
                have hr := HA2.out.1 (hq1.1 rfl)
                rw [← hq2 rfl] at hr
                clear HA2 hq1 hq2
                have c0 := zx.cell 0 rfl
                have fn1 := zn.free 1
                have gn1 := zn.cell 1 rfl
                have ln := zn.lt
                go_upto_region 26 with fail
                have zn2 := zn.set 1 (.int .i64 n)
                have zr2 := zr.off (p := ⟨gn, 1, none⟩) (by have := HG.out; show gr ≠ gn; omega) (.int .i64 n)
                have b2 := b0.setCell (p := ⟨gn, 1, none⟩) (by have := HG.out; show w.heap.size ≤ gn; omega) (.int .i64 n)
                clear c0 fn1 gn1 ln zn zr zx
                generalize World.setCell _ ⟨gn, 1, none⟩ (.int .i64 n) = wB at zn2 zr2 b2 ⊢
                have n0 := zn2.cell 0 rfl
                have n1 := zn2.cell 1 rfl
                have n2 := zn2.cell 2 rfl
                have fr0 := zr2.free 0
                have gr0 := zr2.cell 0 rfl
                have fr1 := zr2.free 1
                have gr1 := zr2.cell 1 rfl
                have fr2 := zr2.free 2
                have gr2 := zr2.cell 2 rfl
                have lr := zr2.lt
                go_wp2_with (first | (at_make; refine Stop.un ?_) | (at_builtin; refine Stop.un ?_) | (with_reducible refine Stop.conv 22 9 ?_) | (with_reducible refine Stop.conv 9 22 ?_))
                have RQ := zr2.set3 (.int .u8 2) (.int .i64 n) (.string ⟨#[]⟩)
                have rq0 := RQ.cell 0 rfl
                have rq1 := RQ.cell 1 rfl
                have rq2 := RQ.cell 2 rfl
                have rql := RQ.lt
                exact bodyPost_ret (v := .tuple #[.agg #[.int .u8 2, .int .i64 n, .string ⟨#[]⟩], .int .i64 0]) (by simp [results, Try.results34, go_sem, rq0, rq1, rq2]) rfl ⟨by first | rfl | (rw [hr]; rfl), below_set3 b2 _ _ _ (by have := HG.out; omega)⟩
          ·
            have hr : res = (⟨bk, bn, bs⟩, 0) := by
              have h45 : op = 4 ∨ op = 5 := by omega
              rw [← HRES.out, ← HB.out.1]
              rcases h45 with rfl | rfl
              · exact agg_4 rows cc
              · exact agg_5 rows cc
            have q2 : (op == 2) = false := by simpa using h2
            have q3 : (op == 3) = false := by simpa using h3
            have b0 := Own.below O
            have c0 := zx.cell 0 rfl
            have e0 := zb.cell 0 rfl
            have e1 := zb.cell 1 rfl
            have e2 := zb.cell 2 rfl
            clear O HB h2 h3
            have fr0 := zr.free 0
            have gr0 := zr.cell 0 rfl
            have fr1 := zr.free 1
            have gr1 := zr.cell 1 rfl
            have fr2 := zr.free 2
            have gr2 := zr.cell 2 rfl
            have lr := zr.lt
            go_wp2_with (first | (at_make; refine Stop.un ?_) | (at_builtin; refine Stop.un ?_) | (with_reducible refine Stop.conv 22 9 ?_) | (with_reducible refine Stop.conv 9 22 ?_))
            have RQ := zr.set3 (.int .u8 bk) (.int .i64 bn) (.string bs)
            have rq0 := RQ.cell 0 rfl
            have rq1 := RQ.cell 1 rfl
            have rq2 := RQ.cell 2 rfl
            have rql := RQ.lt
            exact bodyPost_ret (v := .tuple #[.agg #[.int .u8 bk, .int .i64 bn, .string bs], .int .i64 0]) (by simp [results, Try.results34, go_sem, rq0, rq1, rq2]) rfl ⟨by first | rfl | (rw [hr]; rfl), below_set3 b0 _ _ _ (by have := HG.out; omega)⟩
/-! The reference's kinds of what is told of groups. -/
def RetKinds (w : World) (E : Int) (L : List UInt8) : Ending → World → Prop := fun e w' => ∃ a n c, e = .returned (.tuple #[.slice a n c, .int .i64 E]) ∧ OwnB w w' (.slice a n c) n (kR E L)
set_option maxRecDepth 100000 in
set_option maxHeartbeats 8000000 in
theorem rkinds_any (ka : Option Addr) (kn kc : Nat) (kinds : List UInt8) (ba : Option Addr) (bn bc : Nat) (bs : List Int) (ga : Option Addr) (gn gc : Nat) (ags : List Ag) (w : World)
    (h1 : Cs w ka (bcells kinds)) (e1 : kinds.length = kn) (m1 : kn ≤ kc) (c1 : kc ≤ maxLen)
    (h2 : Cs w ba (icells bs)) (e2 : bs.length = bn) (m2 : bn ≤ bc) (c2 : bc ≤ maxLen) (s2 : bn ≤ 1000)
    (h3 : Cs w ga (agcells ags)) (e3 : ags.length = gn) (m3 : gn ≤ gc) (c3 : gc ≤ maxLen) (s3 : gn ≤ 1000) :
    Calls Try.prog 20 #[.slice ka kn kc, .slice ba bn bc, .slice ga gn gc] w (RetKinds w (kindsE kinds bs ags) (kindsL kinds bs ags)) := by
  unfold maxLen at c1 c2 c3
  have HN := Lib.hid (And.intro e1 (And.intro e2 e3))
  have HTT := Lib.hid (And.intro h1 (And.intro h2 h3))
  obtain ⟨E, hE⟩ : ∃ E, kindsE kinds bs ags = E := ⟨_, rfl⟩
  have HE := Lib.hid hE
  rw [hE]
  clear h1 h2 h3 e1 e2 e3 hE
  obtain ⟨LL, hLL⟩ : ∃ L, kindsL kinds bs ags = L := ⟨_, rfl⟩
  rw [hLL]
  have HLL := Lib.hid hLL
  clear hLL
  have HR1 : Hid (∀ w' (e : Int), E = e → e ≠ 0 → Below w.heap.size w w' → RetKinds w E LL (.returned (.tuple #[.slice none 0 0, .int .i64 e])) w') := Lib.hid (fun w' e h h0 b => ⟨none, 0, 0, by rw [h], by rw [h]; unfold kR; rw [if_neg h0]; exact Own.nil _ _ b⟩)
  by_cases h8 : 8 < bn + gn
  · have HE3 : Hid (E = 3) := Lib.hid (by
      rw [← HE.out]
      exact if_pos (by rw [HN.out.2.1, HN.out.2.2]; exact h8))
    have h8d : decide ((8 : Int) < (bn : Int) + (gn : Int)) = true := decide_eq_true (by omega)
    go_enter Try.func20, Try.ntmps20
    go_wp2_with (first | (at_make; refine Stop.un ?_) | (at_builtin; refine Stop.un ?_) | (with_reducible refine Stop.conv 22 9 ?_) | (with_reducible refine Stop.conv 9 22 ?_))
    exact bodyPost_ret (v := .tuple #[.slice none 0 0, .int .i64 3]) (by simp [results, Try.results20, go_sem]) rfl (HR1.out _ 3 HE3.out (by decide) (Below.refl _ _))
  · have h8d : decide ((8 : Int) < (bn : Int) + (gn : Int)) = false := decide_eq_false (by omega)
    have HE2 : Hid (E = if byB kn bs = false then 1 else if ags.all (agB kn) = false then 1 else if ags.any (agT kinds) = true then 7 else 0) := Lib.hid (by
      rw [← HE.out]
      unfold kindsE
      rw [if_neg (by rw [HN.out.2.1, HN.out.2.2]; exact h8), HN.out.1])
    have hb8 : bn ≤ 8 := by omega
    have hg8 : gn ≤ 8 := by omega
    clear HE h8
    go_enter Try.func20, Try.ntmps20
    go_wp2_with (first | (at_make; refine Stop.un ?_) | (at_builtin; refine Stop.un ?_) | (with_reducible refine Stop.conv 22 9 ?_) | (with_reducible refine Stop.conv 9 22 ?_))
    go_loopw [9, 8] (fun iv ov wr => ∃ (j : Nat) (ab : Option Addr) (cb : Nat), j ≤ bn ∧ iv = .int .i64 (j : Int) ∧ ov = .slice ab j cb ∧ OwnB w wr (.slice ab j cb) j ((bs.take j).map (kdAt kinds)) ∧ Hid (byB kn (bs.take j) = true)) (fun iv _ _ => bn - (intOf iv).toNat)
    case atStart => exact ⟨0, none, 0, Nat.zero_le _, rfl, rfl, Own.nil _ _ (Below.refl _ _), Lib.hid (by unfold byB; simp)⟩
    case round =>
      obtain ⟨j, ab, cb, hj, rfl, rfl, O, HB⟩ := hrel
      by_cases hlt : j < bn
      · have hjl : j < bs.length := by have := HN.out.2.1; omega
        have h2 := HTT.out.2.1.mono (Own.below O) (Nat.le_refl _)
        have h1 := HTT.out.1.mono (Own.below O) (Nat.le_refl _)
        obtain ⟨b, o, rfl⟩ := h2.addr (by rw [icells_length]; omega)
        have x0 : wr.cell? ⟨b, o + j, none⟩ = some (.int .i64 bs[j]) := h2.at (by simp [icells, hjl])
        have HT : Hid ((bs.take (j + 1)).map (kdAt kinds) = (bs.take j).map (kdAt kinds) ++ [kdAt kinds bs[j]]) := Lib.hid (by rw [List.take_succ_eq_append_getElem hjl, List.map_append]; rfl)
        have HBAD : Hid (isCol kn bs[j] = false ∨ bs[j] ∈ bs.take j → E = 1) := Lib.hid (fun hb => by rw [HE2.out, byB_bad hjl hb]; rfl)
        have HGOOD : Hid (isCol kn bs[j] = true → bs[j] ∉ bs.take j → byB kn (bs.take (j + 1)) = true) := Lib.hid (fun a b => byB_step hjl HB.out a b)
        have HXJ : Hid (∀ q, (h : q < bs.length) → q < j → bs[q] = bs[j] → bs[j] ∈ bs.take j) := Lib.hid (fun q h hq e => by
          rw [← e]
          exact List.mem_take_iff_getElem.2 ⟨q, by omega, rfl⟩)
        have HNX : Hid ((∀ q, (h : q < bs.length) → q < j → bs[q] ≠ bs[j]) → bs[j] ∉ bs.take j) := Lib.hid (fun h hm => by
          obtain ⟨q, hq, e⟩ := List.mem_take_iff_getElem.1 hm
          exact h q (by omega) (by omega) e)
        have HKC : Hid (∀ cc : Nat, cc < kn → ∃ kb ko, ka = some ⟨kb, ko, none⟩ ∧ wr.cell? ⟨kb, ko + cc, none⟩ = some (.int .u8 (((kdAt kinds cc).toNat : Nat) : Int))) := Lib.hid (fun cc hcc => by
          obtain ⟨kb, ko, rfl⟩ := h1.addr (by rw [bcells_length, HN.out.1]; omega)
          exact ⟨kb, ko, rfl, kcell h1 (by rw [HN.out.1]; exact hcc)⟩)
        have xl := lt_cell x0
        have H2 := Lib.hid h2
        clear h2 h1
        generalize bs[j] = x at x0 HT HBAD HGOOD HXJ HNX
        clear hjl
        cases hq : isCol kn x with
        | false =>
          have HE1 := Lib.hid (HBAD.out (.inl hq))
          have bw := Own.below O
          have hor : x < 0 ∨ (kn : Int) ≤ x := by
            unfold isCol at hq
            by_cases h : x < 0
            · exact .inl h
            · right
              rw [decide_eq_true (by omega), Bool.true_and, decide_eq_false_iff_not] at hq
              omega
          clear HBAD HGOOD O HKC HT HXJ HNX hq H2
          by_cases hx0 : x < 0
          ·
            have d0 : decide (x < 0) = true := decide_eq_true hx0
            clear hor hx0
            go_wp2_with (first | (at_make; refine Stop.un ?_) | (at_builtin; refine Stop.un ?_) | (with_reducible refine Stop.conv 22 9 ?_) | (with_reducible refine Stop.conv 9 22 ?_))
            exact bodyPost_ret (v := .tuple #[.slice none 0 0, .int .i64 1]) (by simp [results, Try.results20, go_sem]) rfl (HR1.out _ 1 HE1.out (by decide) bw)
          ·
            have d0 : decide (x < 0) = false := decide_eq_false hx0
            have d1 : decide ((kn : Int) ≤ x) = true := decide_eq_true (hor.resolve_left hx0)
            clear hor hx0
            go_wp2_with (first | (at_make; refine Stop.un ?_) | (at_builtin; refine Stop.un ?_) | (with_reducible refine Stop.conv 22 9 ?_) | (with_reducible refine Stop.conv 9 22 ?_))
            exact bodyPost_ret (v := .tuple #[.slice none 0 0, .int .i64 1]) (by simp [results, Try.results20, go_sem]) rfl (HR1.out _ 1 HE1.out (by decide) bw)
        | true =>
          have hcl : ∃ cc : Nat, x = (cc : Int) ∧ cc < kn := by
            unfold isCol at hq
            rw [Bool.and_eq_true, decide_eq_true_eq, decide_eq_true_eq] at hq
            exact ⟨x.toNat, by omega, by omega⟩
          obtain ⟨cc, rfl, hcc⟩ := hcl
          obtain ⟨kb, ko, rfl, y0⟩ := HKC.out cc hcc
          have d0 : decide ((cc : Int) < 0) = false := decide_eq_false (by omega)
          have d1 : decide ((kn : Int) ≤ (cc : Int)) = false := decide_eq_false (by omega)
          have HQ := Lib.hid hq
          clear hq HKC
          go_wp2_with (first | (at_make; refine Stop.un ?_) | (at_builtin; refine Stop.un ?_) | (with_reducible refine Stop.conv 22 9 ?_) | (with_reducible refine Stop.conv 9 22 ?_))
          clear d0 d1
          obtain ⟨wo, hwo⟩ : ∃ wo, wr = wo := ⟨_, rfl⟩
          rw [hwo] at O x0 y0 H2 xl ⊢
          clear hwo
          go_loopw [10] (fun kv wr => ∃ q : Nat, q ≤ j ∧ kv = .int .i64 (q : Int) ∧ Below wo.heap.size wo wr ∧ Hid (∀ p, (h : p < bs.length) → p < q → bs[p] ≠ (cc : Int))) (fun kv _ => j - (intOf kv).toNat)
          case atStart => exact ⟨0, Nat.zero_le _, rfl, Below.refl _ _, Lib.hid (fun p h hp => absurd hp (Nat.not_lt_zero _))⟩
          case round =>
            obtain ⟨q, hq, rfl, bI, HP⟩ := hrel
            replace x0 := Ext.cell bI x0
            replace y0 := Ext.cell bI y0
            have H2 := Lib.hid (H2.out.mono bI (Nat.le_refl _))
            replace O := Own.keep O bI
            clear xl
            have xl := lt_cell x0
            by_cases hqj : q < j
            ·
              have hql : q < bs.length := by have := HN.out.2.1; omega
              have z0 : wr.cell? ⟨b, o + q, none⟩ = some (.int .i64 bs[q]) := H2.out.at (by simp [icells, hql])
              have HZ := Lib.hid (And.intro (HXJ.out q hql hqj) (fun hne : bs[q] ≠ (cc : Int) => (fun p h hp => by
                by_cases e : p = q
                · subst e; exact hne
                · exact HP.out p h (by omega) : ∀ p, (h : p < bs.length) → p < q + 1 → bs[p] ≠ (cc : Int))))
              generalize bs[q] = z at z0 HZ
              have zl := lt_cell z0
              clear hql HP
              have hqb : q < bn := by omega
              go_upto_region 12 with fail
              clear xl zl
              refine mix_startE 9 rfl (by kernel_rfl) ?_
              intro xq hxq
              replace x0 := Ext.cell hxq x0
              replace z0 := Ext.cell hxq z0
              replace O := Own.keep O hxq
              replace bI := Below.next bI hxq
              have hxB := hxq
              clear hxq
              refine mix_quiet Keeps.ext 0 rfl (by kernel_rfl) rfl ?_
              intro ι U hne hU
              go_big_quiet_op
              clear hU hne U ι
              show wpAnyM _ _ _ _ _ _ _ _ _
              refine mix_quiet Keeps.ext 1 rfl (by kernel_rfl) rfl ?_
              intro ι U hne hU
              go_big_quiet_op
              clear hU hne U ι
              show wpAnyM _ _ _ _ _ _ _ _ _
              refine mix_quiet Keeps.ext 2 rfl (by kernel_rfl) rfl ?_
              intro ι U hne hU
              go_big_quiet_op
              clear hU hne U ι
              show wpAnyM _ _ _ _ _ _ _ _ _
              refine mix_quiet Keeps.ext 3 rfl (by kernel_rfl) rfl ?_
              intro ι U hne hU
              have hcw0 := fun ii => (hU ii).cell x0
              have hcw1 := fun ii => (hU ii).cell z0
              go_big_quiet_op
              clear hU hne hcw0 hcw1 U ι
              show wpAnyM _ _ _ _ _ _ _ _ _
              refine mix_quiet Keeps.ext 4 rfl (by kernel_rfl) rfl ?_
              intro ι U hne hU
              go_big_quiet_op
              clear hU hne U ι
              show wpAnyM _ _ _ _ _ _ _ _ _
              refine mix_quiet Keeps.ext 5 rfl (by kernel_rfl) rfl ?_
              intro ι U hne hU
              go_big_quiet_op
              clear hU hne U ι
              show wpAnyM _ _ _ _ _ _ _ _ _
              refine mix_quiet Keeps.ext 6 rfl (by kernel_rfl) rfl ?_
              intro ι U hne hU
              go_big_quiet_op
              clear hU hne U ι
              show wpAnyM _ _ _ _ _ _ _ _ _
              refine mix_quiet Keeps.ext 7 rfl (by kernel_rfl) rfl ?_
              intro ι U hne hU
              have hcw0 := fun ii => (hU ii).cell x0
              have hcw1 := fun ii => (hU ii).cell z0
              go_big_quiet_op
              clear hU hne hcw0 hcw1 U ι
              show wpAnyM _ _ _ _ _ _ _ _ _
              refine mix_quiet Keeps.ext 8 rfl (by kernel_rfl) rfl ?_
              intro ι U hne hU
              go_big_quiet_op
              clear hU hne U ι
              show wpAnyM _ _ _ _ _ _ _ _ _
              refine mix_end (by kernel_rfl) ?_
              by_cases hz : z = (cc : Int)
              ·
                have HE1 := Lib.hid (HBAD.out (.inr (HZ.out.1 hz)))
                have hzz : (z == (cc : Int)) = true := by simpa using hz
                have bw := Own.below O
                clear HBAD HGOOD O HT HXJ HNX H2 HZ hz x0 z0 hxB bI
                go_wp2_with (first | (at_make; refine Stop.un ?_) | (at_builtin; refine Stop.un ?_) | (with_reducible refine Stop.conv 22 9 ?_) | (with_reducible refine Stop.conv 9 22 ?_))
                exact bodyPost_ret (v := .tuple #[.slice none 0 0, .int .i64 1]) (by simp [results, Try.results20, go_sem]) rfl (HR1.out _ 1 HE1.out (by decide) bw)
              ·
                have HZ2 := Lib.hid (HZ.out.2 hz)
                have hzz : (z == (cc : Int)) = false := by simpa using hz
                clear HZ hz
                go_wp2_with (first | (at_make; refine Stop.un ?_) | (at_builtin; refine Stop.un ?_) | (with_reducible refine Stop.conv 22 9 ?_) | (with_reducible refine Stop.conv 9 22 ?_))
                clear hzz z0
                go_roundw
                case rel => exact ⟨q + 1, by omega, by go_num, bI, HZ2⟩
                case measure => simp [intOf]; omega
            ·
              obtain rfl : q = j := by omega
              have HB2 := Lib.hid (HGOOD.out HQ.out (HNX.out (fun p h hp => HP.out p h hp)))
              clear HP HBAD HGOOD HXJ HNX H2 HQ
              go_wp2_with (first | (at_make; refine Stop.un ?_) | (at_builtin; refine Stop.un ?_) | (with_reducible refine Stop.conv 22 9 ?_) | (with_reducible refine Stop.conv 9 22 ?_))
              refine Stop.mk (app_k1 (u := kdAt kinds (cc : Int)) w _ _ rfl rfl O rfl rfl (by omega) ?_)
              intro a5 c5 w5 O5 g5 k5
              rw [← HT.out] at O5
              clear O g5 k5 y0 x0 xl HT
              go_wp2_with (first | (at_make; refine Stop.un ?_) | (at_builtin; refine Stop.un ?_) | (with_reducible refine Stop.conv 22 9 ?_) | (with_reducible refine Stop.conv 9 22 ?_))
              go_roundw
              case rel => exact ⟨q + 1, a5, c5, by omega, by go_num, rfl, O5, HB2⟩
              case measure => simp [intOf]; omega
      · obtain rfl : j = bn := by omega
        have htk : bs.take j = bs := List.take_of_length_le (by have := HN.out.2.1; omega)
        rw [htk] at O
        have HE3 : Hid (E = if ags.all (agB kn) = false then 1 else if ags.any (agT kinds) = true then 7 else 0) := Lib.hid (by
          have h1 := HB.out
          rw [htk] at h1
          rw [HE2.out, h1]; rfl)
        clear HB htk HE2 hlt
        go_wp2_with (first | (at_make; refine Stop.un ?_) | (at_builtin; refine Stop.un ?_) | (with_reducible refine Stop.conv 22 9 ?_) | (with_reducible refine Stop.conv 9 22 ?_))
        go_loopw [11] (fun iv wr => ∃ (i : Nat), i ≤ gn ∧ iv = .int .i64 (i : Int) ∧ OwnB w wr (.slice ab j cb) j (bs.map (kdAt kinds)) ∧ Hid ((ags.take i).all (agB kn) = true)) (fun iv _ => gn - (intOf iv).toNat)
        case atStart => exact ⟨0, Nat.zero_le _, rfl, O, Lib.hid rfl⟩
        case round =>
          clear O
          obtain ⟨i, hi, rfl, O, HB⟩ := hrel
          by_cases hlt : i < gn
          · have hil : i < ags.length := by have := HN.out.2.2; omega
            have bb := Own.below O
            have h3 := HTT.out.2.2.mono bb (Nat.le_refl _)
            obtain ⟨b, o, rfl⟩ := h3.addr (by rw [agcells_length]; omega)
            obtain ⟨x0, x1⟩ := h3.agat hil
            have HBAD : Hid (agB kn ags[i] = false → E = 1) := Lib.hid (fun hb => by
              have : ags.all (agB kn) = false := by
                rw [List.all_eq_false]
                exact ⟨ags[i], List.getElem_mem _, by rw [hb]; decide⟩
              rw [HE3.out, this]; rfl)
            have HGOOD : Hid (agB kn ags[i] = true → (ags.take (i + 1)).all (agB kn) = true) := Lib.hid (fun h => by
              rw [List.take_succ_eq_append_getElem hil, List.all_append, HB.out]; simp [h])
            have xl := lt_cell x0
            clear h3
            generalize ags[i] = x at x0 x1 HBAD HGOOD
            clear hil
            obtain ⟨op, col⟩ := x
            simp only at x0 x1
            have zx := At.new wr #[.int .u8 op, .int .i64 col] 34
            have OA := Own.alloc O (.cells #[.int .u8 op, .int .i64 col] 34)
            clear bb
            go_upto_region 19 with fail
            generalize wr.alloc (.cells #[.int .u8 op, .int .i64 col] 34) = wA at zx OA ⊢
            generalize wr.heap.size = gx at zx ⊢
            clear O x0 x1 xl
            have d0 := zx.cell 0 rfl
            have d1 := zx.cell 1 rfl
            by_cases o1 : op = 1
            ·
              subst o1
              by_cases c0 : col = 0
              ·
                subst c0
                have HG2 := Lib.hid (HGOOD.out (by rfl))
                clear HBAD HGOOD zx
                go_wp2_with (first | (at_make; refine Stop.un ?_) | (at_builtin; refine Stop.un ?_) | (with_reducible refine Stop.conv 22 9 ?_) | (with_reducible refine Stop.conv 9 22 ?_))
                clear d0 d1
                go_roundw
                case rel => exact ⟨i + 1, by omega, by go_num, OA, HG2⟩
                case measure => simp [intOf]; omega
              ·
                have HE1 := Lib.hid (HBAD.out (by unfold agB; rw [if_pos rfl]; exact decide_eq_false c0))
                have bw := Own.below OA
                have hc0 : (col != 0) = true := by simpa using c0
                clear c0
                clear HBAD HGOOD OA zx
                go_wp2_with (first | (at_make; refine Stop.un ?_) | (at_builtin; refine Stop.un ?_) | (with_reducible refine Stop.conv 22 9 ?_) | (with_reducible refine Stop.conv 9 22 ?_))
                exact bodyPost_ret (v := .tuple #[.slice none 0 0, .int .i64 1]) (by simp [results, Try.results20, go_sem]) rfl (HR1.out _ 1 HE1.out (by decide) bw)
            ·
              by_cases o2 : 2 ≤ op ∧ op ≤ 5
              ·
                cases hq : isCol kn col with
                | false =>
                  have hor : col < 0 ∨ (kn : Int) ≤ col := by
                    unfold isCol at hq
                    by_cases h : col < 0
                    · exact .inl h
                    · right
                      rw [decide_eq_true (by omega), Bool.true_and, decide_eq_false_iff_not] at hq
                      omega
                  have o4 : op = 2 ∨ op = 3 ∨ op = 4 ∨ op = 5 := by omega
                  clear o1 o2
                  have HQ := Lib.hid hq
                  clear hq
                  by_cases hx0 : col < 0
                  ·
                    have e0 : decide (col < 0) = true := decide_eq_true hx0
                    clear hor hx0
                    rcases o4 with rfl | rfl | rfl | rfl
                    ·
                      have HE1 := Lib.hid (HBAD.out (by unfold agB; rw [if_neg (show ¬ ((2 : Int) = 1) by decide), HQ.out]; rfl))
                      have bw := Own.below OA
                      clear HBAD HGOOD OA zx
                      go_wp2_with (first | (at_make; refine Stop.un ?_) | (at_builtin; refine Stop.un ?_) | (with_reducible refine Stop.conv 22 9 ?_) | (with_reducible refine Stop.conv 9 22 ?_))
                      exact bodyPost_ret (v := .tuple #[.slice none 0 0, .int .i64 1]) (by simp [results, Try.results20, go_sem]) rfl (HR1.out _ 1 HE1.out (by decide) bw)
                    ·
                      have HE1 := Lib.hid (HBAD.out (by unfold agB; rw [if_neg (show ¬ ((3 : Int) = 1) by decide), HQ.out]; rfl))
                      have bw := Own.below OA
                      clear HBAD HGOOD OA zx
                      go_wp2_with (first | (at_make; refine Stop.un ?_) | (at_builtin; refine Stop.un ?_) | (with_reducible refine Stop.conv 22 9 ?_) | (with_reducible refine Stop.conv 9 22 ?_))
                      exact bodyPost_ret (v := .tuple #[.slice none 0 0, .int .i64 1]) (by simp [results, Try.results20, go_sem]) rfl (HR1.out _ 1 HE1.out (by decide) bw)
                    ·
                      have HE1 := Lib.hid (HBAD.out (by unfold agB; rw [if_neg (show ¬ ((4 : Int) = 1) by decide), HQ.out]; rfl))
                      have bw := Own.below OA
                      clear HBAD HGOOD OA zx
                      go_wp2_with (first | (at_make; refine Stop.un ?_) | (at_builtin; refine Stop.un ?_) | (with_reducible refine Stop.conv 22 9 ?_) | (with_reducible refine Stop.conv 9 22 ?_))
                      exact bodyPost_ret (v := .tuple #[.slice none 0 0, .int .i64 1]) (by simp [results, Try.results20, go_sem]) rfl (HR1.out _ 1 HE1.out (by decide) bw)
                    ·
                      have HE1 := Lib.hid (HBAD.out (by unfold agB; rw [if_neg (show ¬ ((5 : Int) = 1) by decide), HQ.out]; rfl))
                      have bw := Own.below OA
                      clear HBAD HGOOD OA zx
                      go_wp2_with (first | (at_make; refine Stop.un ?_) | (at_builtin; refine Stop.un ?_) | (with_reducible refine Stop.conv 22 9 ?_) | (with_reducible refine Stop.conv 9 22 ?_))
                      exact bodyPost_ret (v := .tuple #[.slice none 0 0, .int .i64 1]) (by simp [results, Try.results20, go_sem]) rfl (HR1.out _ 1 HE1.out (by decide) bw)
                  ·
                    have e0 : decide (col < 0) = false := decide_eq_false hx0
                    have e1 : decide ((kn : Int) ≤ col) = true := decide_eq_true (hor.resolve_left hx0)
                    clear hor hx0
                    rcases o4 with rfl | rfl | rfl | rfl
                    ·
                      have HE1 := Lib.hid (HBAD.out (by unfold agB; rw [if_neg (show ¬ ((2 : Int) = 1) by decide), HQ.out]; rfl))
                      have bw := Own.below OA
                      clear HBAD HGOOD OA zx
                      go_wp2_with (first | (at_make; refine Stop.un ?_) | (at_builtin; refine Stop.un ?_) | (with_reducible refine Stop.conv 22 9 ?_) | (with_reducible refine Stop.conv 9 22 ?_))
                      exact bodyPost_ret (v := .tuple #[.slice none 0 0, .int .i64 1]) (by simp [results, Try.results20, go_sem]) rfl (HR1.out _ 1 HE1.out (by decide) bw)
                    ·
                      have HE1 := Lib.hid (HBAD.out (by unfold agB; rw [if_neg (show ¬ ((3 : Int) = 1) by decide), HQ.out]; rfl))
                      have bw := Own.below OA
                      clear HBAD HGOOD OA zx
                      go_wp2_with (first | (at_make; refine Stop.un ?_) | (at_builtin; refine Stop.un ?_) | (with_reducible refine Stop.conv 22 9 ?_) | (with_reducible refine Stop.conv 9 22 ?_))
                      exact bodyPost_ret (v := .tuple #[.slice none 0 0, .int .i64 1]) (by simp [results, Try.results20, go_sem]) rfl (HR1.out _ 1 HE1.out (by decide) bw)
                    ·
                      have HE1 := Lib.hid (HBAD.out (by unfold agB; rw [if_neg (show ¬ ((4 : Int) = 1) by decide), HQ.out]; rfl))
                      have bw := Own.below OA
                      clear HBAD HGOOD OA zx
                      go_wp2_with (first | (at_make; refine Stop.un ?_) | (at_builtin; refine Stop.un ?_) | (with_reducible refine Stop.conv 22 9 ?_) | (with_reducible refine Stop.conv 9 22 ?_))
                      exact bodyPost_ret (v := .tuple #[.slice none 0 0, .int .i64 1]) (by simp [results, Try.results20, go_sem]) rfl (HR1.out _ 1 HE1.out (by decide) bw)
                    ·
                      have HE1 := Lib.hid (HBAD.out (by unfold agB; rw [if_neg (show ¬ ((5 : Int) = 1) by decide), HQ.out]; rfl))
                      have bw := Own.below OA
                      clear HBAD HGOOD OA zx
                      go_wp2_with (first | (at_make; refine Stop.un ?_) | (at_builtin; refine Stop.un ?_) | (with_reducible refine Stop.conv 22 9 ?_) | (with_reducible refine Stop.conv 9 22 ?_))
                      exact bodyPost_ret (v := .tuple #[.slice none 0 0, .int .i64 1]) (by simp [results, Try.results20, go_sem]) rfl (HR1.out _ 1 HE1.out (by decide) bw)
                | true =>
                  have hcl : 0 ≤ col ∧ col < kn := by
                    unfold isCol at hq
                    rw [Bool.and_eq_true, decide_eq_true_eq, decide_eq_true_eq] at hq
                    omega
                  have e0 : decide (col < 0) = false := decide_eq_false (by omega)
                  have e1 : decide ((kn : Int) ≤ col) = false := decide_eq_false (by omega)
                  have o4 : op = 2 ∨ op = 3 ∨ op = 4 ∨ op = 5 := by omega
                  clear o1 o2 hcl
                  have HQ := Lib.hid hq
                  clear hq
                  rcases o4 with rfl | rfl | rfl | rfl
                  ·
                    have HG2 := Lib.hid (HGOOD.out (by unfold agB; rw [if_neg (show ¬ ((2 : Int) = 1) by decide), HQ.out]; rfl))
                    clear HBAD HGOOD zx
                    go_wp2_with (first | (at_make; refine Stop.un ?_) | (at_builtin; refine Stop.un ?_) | (with_reducible refine Stop.conv 22 9 ?_) | (with_reducible refine Stop.conv 9 22 ?_))
                    clear d0 d1
                    go_roundw
                    case rel => exact ⟨i + 1, by omega, by go_num, OA, HG2⟩
                    case measure => simp [intOf]; omega
                  ·
                    have HG2 := Lib.hid (HGOOD.out (by unfold agB; rw [if_neg (show ¬ ((3 : Int) = 1) by decide), HQ.out]; rfl))
                    clear HBAD HGOOD zx
                    go_wp2_with (first | (at_make; refine Stop.un ?_) | (at_builtin; refine Stop.un ?_) | (with_reducible refine Stop.conv 22 9 ?_) | (with_reducible refine Stop.conv 9 22 ?_))
                    clear d0 d1
                    go_roundw
                    case rel => exact ⟨i + 1, by omega, by go_num, OA, HG2⟩
                    case measure => simp [intOf]; omega
                  ·
                    have HG2 := Lib.hid (HGOOD.out (by unfold agB; rw [if_neg (show ¬ ((4 : Int) = 1) by decide), HQ.out]; rfl))
                    clear HBAD HGOOD zx
                    go_wp2_with (first | (at_make; refine Stop.un ?_) | (at_builtin; refine Stop.un ?_) | (with_reducible refine Stop.conv 22 9 ?_) | (with_reducible refine Stop.conv 9 22 ?_))
                    clear d0 d1
                    go_roundw
                    case rel => exact ⟨i + 1, by omega, by go_num, OA, HG2⟩
                    case measure => simp [intOf]; omega
                  ·
                    have HG2 := Lib.hid (HGOOD.out (by unfold agB; rw [if_neg (show ¬ ((5 : Int) = 1) by decide), HQ.out]; rfl))
                    clear HBAD HGOOD zx
                    go_wp2_with (first | (at_make; refine Stop.un ?_) | (at_builtin; refine Stop.un ?_) | (with_reducible refine Stop.conv 22 9 ?_) | (with_reducible refine Stop.conv 9 22 ?_))
                    clear d0 d1
                    go_roundw
                    case rel => exact ⟨i + 1, by omega, by go_num, OA, HG2⟩
                    case measure => simp [intOf]; omega
              ·
                have hor : op < 1 ∨ 5 < op := by omega
                have HW : Hid (agB kn ⟨op, col⟩ = false) := Lib.hid (by unfold agB; rw [if_neg o1]; by_cases h2 : 2 ≤ op <;> simp [h2]; intro h; omega)
                by_cases hl : op < 1
                ·
                  have HE1 := Lib.hid (HBAD.out (by exact HW.out))
                  have bw := Own.below OA
                  have e0 : decide (op < 1) = true := decide_eq_true hl
                  clear hl hor o1 o2
                  clear HBAD HGOOD OA zx
                  go_wp2_with (first | (at_make; refine Stop.un ?_) | (at_builtin; refine Stop.un ?_) | (with_reducible refine Stop.conv 22 9 ?_) | (with_reducible refine Stop.conv 9 22 ?_))
                  exact bodyPost_ret (v := .tuple #[.slice none 0 0, .int .i64 1]) (by simp [results, Try.results20, go_sem]) rfl (HR1.out _ 1 HE1.out (by decide) bw)
                ·
                  have HE1 := Lib.hid (HBAD.out (by exact HW.out))
                  have bw := Own.below OA
                  have e0 : decide (op < 1) = false := decide_eq_false hl
                  have e1 : decide (5 < op) = true := decide_eq_true (hor.resolve_left hl)
                  clear hl hor o1 o2
                  clear HBAD HGOOD OA zx
                  go_wp2_with (first | (at_make; refine Stop.un ?_) | (at_builtin; refine Stop.un ?_) | (with_reducible refine Stop.conv 22 9 ?_) | (with_reducible refine Stop.conv 9 22 ?_))
                  exact bodyPost_ret (v := .tuple #[.slice none 0 0, .int .i64 1]) (by simp [results, Try.results20, go_sem]) rfl (HR1.out _ 1 HE1.out (by decide) bw)
          · obtain rfl : i = gn := by omega
            have htk : ags.take i = ags := List.take_of_length_le (by have := HN.out.2.2; omega)
            have HAG := Lib.hid HB.out
            rw [htk] at HAG
            have HE4 : Hid (E = if ags.any (agT kinds) = true then 7 else 0) := Lib.hid (by
              rw [HE3.out, HAG.out]; rfl)
            have HOUT : Hid (bs.map (kdAt kinds) = bs.map (kdAt kinds) ++ (ags.take 0).map (agK kinds)) := Lib.hid (by simp)
            have O0 : OwnB w wr (.slice ab (j + 0) cb) (j + 0) (bs.map (kdAt kinds) ++ (ags.take 0).map (agK kinds)) := by rw [← HOUT.out]; exact O
            clear O HOUT hlt HB htk HE3
            go_wp2_with (first | (at_make; refine Stop.un ?_) | (at_builtin; refine Stop.un ?_) | (with_reducible refine Stop.conv 22 9 ?_) | (with_reducible refine Stop.conv 9 22 ?_))
            go_loopw [13, 8] (fun iv ov wr => ∃ (p : Nat) (ab : Option Addr) (cb : Nat), p ≤ i ∧ iv = .int .i64 (p : Int) ∧ ov = .slice ab (j + p) cb ∧ OwnB w wr (.slice ab (j + p) cb) (j + p) (bs.map (kdAt kinds) ++ (ags.take p).map (agK kinds)) ∧ Hid ((ags.take p).any (agT kinds) = false)) (fun iv _ _ => i - (intOf iv).toNat)
            case atStart => exact ⟨0, ab, cb, Nat.zero_le _, rfl, rfl, O0, Lib.hid rfl⟩
            case round =>
              clear O0
              obtain ⟨p, ab, cb, hp, rfl, rfl, O, HB⟩ := hrel
              by_cases hlt : p < i
              · have hil : p < ags.length := by have := HN.out.2.2; omega
                have bb := Own.below O
                have h3 := HTT.out.2.2.mono bb (Nat.le_refl _)
                have h1 := HTT.out.1.mono bb (Nat.le_refl _)
                obtain ⟨b, o, rfl⟩ := h3.addr (by rw [agcells_length]; omega)
                obtain ⟨x0, x1⟩ := h3.agat hil
                have HT : Hid ((ags.take (p + 1)).map (agK kinds) = (ags.take p).map (agK kinds) ++ [agK kinds ags[p]]) := Lib.hid (by rw [List.take_succ_eq_append_getElem hil, List.map_append]; rfl)
                have HBAD : Hid (agT kinds ags[p] = true → E = 7) := Lib.hid (fun hb => by
                  have : ags.any (agT kinds) = true := by
                    rw [List.any_eq_true]
                    exact ⟨ags[p], List.getElem_mem _, hb⟩
                  rw [HE4.out, this]; rfl)
                have HGOOD : Hid (agT kinds ags[p] = false → (ags.take (p + 1)).any (agT kinds) = false) := Lib.hid (fun h => by
                  rw [List.take_succ_eq_append_getElem hil, List.any_append, HB.out]; simp [h])
                have hag := List.all_eq_true.1 HAG.out ags[p] (List.getElem_mem _)
                have HKC : Hid (∀ cc : Nat, cc < kn → ∃ kb ko, ka = some ⟨kb, ko, none⟩ ∧ wr.cell? ⟨kb, ko + cc, none⟩ = some (.int .u8 (((kdAt kinds cc).toNat : Nat) : Int))) := Lib.hid (fun cc hcc => by
                  obtain ⟨kb, ko, rfl⟩ := h1.addr (by rw [bcells_length, HN.out.1]; omega)
                  exact ⟨kb, ko, rfl, kcell h1 (by rw [HN.out.1]; exact hcc)⟩)
                have xl := lt_cell x0
                clear h3 h1
                generalize ags[p] = x at x0 x1 HT HBAD HGOOD hag
                clear hil
                obtain ⟨op, col⟩ := x
                simp only at x0 x1
                have zx := At.new wr #[.int .u8 op, .int .i64 col] 34
                have OA := Own.alloc O (.cells #[.int .u8 op, .int .i64 col] 34)
                have HKC2 : Hid (∀ cc : Nat, cc < kn → ∃ kb ko, ka = some ⟨kb, ko, none⟩ ∧ (wr.alloc (.cells #[.int .u8 op, .int .i64 col] 34)).cell? ⟨kb, ko + cc, none⟩ = some (.int .u8 (((kdAt kinds cc).toNat : Nat) : Int))) := Lib.hid (fun cc hcc => by
                  obtain ⟨kb, ko, e, h⟩ := HKC.out cc hcc
                  exact ⟨kb, ko, e, Ext.cell ((Below.refl wr.heap.size wr).alloc (Nat.le_refl _) _) h⟩)
                clear bb HKC
                go_upto_region 25 with fail
                generalize wr.alloc (.cells #[.int .u8 op, .int .i64 col] 34) = wA at zx OA HKC2 ⊢
                generalize wr.heap.size = gx at zx ⊢
                clear O x0 x1 xl
                have d0 := zx.cell 0 rfl
                have d1 := zx.cell 1 rfl
                by_cases o1 : op = 1
                ·
                  subst o1
                  clear hag
                  have HG2 := Lib.hid (HGOOD.out (by rfl))
                  have HAK : Hid (agK kinds ⟨1, col⟩ = 2) := Lib.hid (by rfl)
                  clear HBAD HGOOD HKC2
                  go_wp2_with (first | (at_make; refine Stop.un ?_) | (at_builtin; refine Stop.un ?_) | (with_reducible refine Stop.conv 22 9 ?_) | (with_reducible refine Stop.conv 9 22 ?_))
                  refine Stop.mk (app_k2 (u := 2) w _ _ rfl rfl OA rfl rfl rfl (by omega) ?_)
                  intro a5 c5 w5 O5 g5 k5
                  rw [List.append_assoc, ← HAK.out, ← HT.out] at O5
                  clear OA g5 k5 d0 d1 zx HT HAK
                  go_wp2_with (first | (at_make; refine Stop.un ?_) | (at_builtin; refine Stop.un ?_) | (with_reducible refine Stop.conv 22 9 ?_) | (with_reducible refine Stop.conv 9 22 ?_))
                  go_roundw
                  case rel => exact ⟨p + 1, a5, c5, by omega, by go_num, rfl, O5, HG2⟩
                  case measure => simp [intOf]; omega
                ·
                  unfold agB at hag
                  rw [if_neg o1, Bool.and_eq_true, Bool.and_eq_true, decide_eq_true_eq, decide_eq_true_eq] at hag
                  obtain ⟨⟨o2, o5⟩, hq⟩ := hag
                  simp only at o2 o5 hq
                  unfold isCol at hq
                  rw [Bool.and_eq_true, decide_eq_true_eq, decide_eq_true_eq] at hq
                  have hcl : ∃ cc : Nat, col = (cc : Int) ∧ cc < kn := ⟨col.toNat, by omega, by omega⟩
                  clear hq
                  obtain ⟨cc, rfl, hcc⟩ := hcl
                  obtain ⟨kb, ko, rfl, y0⟩ := HKC2.out cc hcc
                  have o4 : op = 2 ∨ op = 3 ∨ op = 4 ∨ op = 5 := by omega
                  clear o1 o2 o5
                  rcases o4 with rfl | rfl | rfl | rfl
                  ·
                    have HG2 := Lib.hid (HGOOD.out (by rfl))
                    have HAK : Hid (agK kinds ⟨2, (cc : Int)⟩ = 2) := Lib.hid (by rfl)
                    clear HBAD HGOOD HKC2
                    go_wp2_with (first | (at_make; refine Stop.un ?_) | (at_builtin; refine Stop.un ?_) | (with_reducible refine Stop.conv 22 9 ?_) | (with_reducible refine Stop.conv 9 22 ?_))
                    refine Stop.mk (app_k2 (u := 2) w _ _ rfl rfl OA rfl rfl rfl (by omega) ?_)
                    intro a5 c5 w5 O5 g5 k5
                    rw [List.append_assoc, ← HAK.out, ← HT.out] at O5
                    clear OA g5 k5 d0 d1 zx HT HAK y0
                    go_wp2_with (first | (at_make; refine Stop.un ?_) | (at_builtin; refine Stop.un ?_) | (with_reducible refine Stop.conv 22 9 ?_) | (with_reducible refine Stop.conv 9 22 ?_))
                    go_roundw
                    case rel => exact ⟨p + 1, a5, c5, by omega, by go_num, rfl, O5, HG2⟩
                    case measure => simp [intOf]; omega
                  ·
                    by_cases hu : kdAt kinds (cc : Int) = 2
                    ·
                      have HG2 := Lib.hid (HGOOD.out (by unfold agT; rw [hu]; rfl))
                      have HAK : Hid (agK kinds ⟨3, (cc : Int)⟩ = 2) := Lib.hid (by rfl)
                      have hub : (((kdAt kinds (cc : Int)).toNat : Int) != 2) = false := by rw [hu]; rfl
                      clear hu
                      clear HBAD HGOOD HKC2
                      go_wp2_with (first | (at_make; refine Stop.un ?_) | (at_builtin; refine Stop.un ?_) | (with_reducible refine Stop.conv 22 9 ?_) | (with_reducible refine Stop.conv 9 22 ?_))
                      refine Stop.mk (app_k2 (u := 2) w _ _ rfl rfl OA rfl rfl rfl (by omega) ?_)
                      intro a5 c5 w5 O5 g5 k5
                      rw [List.append_assoc, ← HAK.out, ← HT.out] at O5
                      clear OA g5 k5 d0 d1 zx HT HAK y0
                      go_wp2_with (first | (at_make; refine Stop.un ?_) | (at_builtin; refine Stop.un ?_) | (with_reducible refine Stop.conv 22 9 ?_) | (with_reducible refine Stop.conv 9 22 ?_))
                      go_roundw
                      case rel => exact ⟨p + 1, a5, c5, by omega, by go_num, rfl, O5, HG2⟩
                      case measure => simp [intOf]; omega
                    ·
                      have HE7 := Lib.hid (HBAD.out (by unfold agT; rw [decide_eq_false hu]; rfl))
                      have bw := Own.below OA
                      have hub : (((kdAt kinds (cc : Int)).toNat : Int) != 2) = true := by
                        have h1 : (kdAt kinds (cc : Int)).toNat ≠ 2 := fun e => hu (UInt8.toNat_inj.1 e)
                        simp
                        omega
                      clear hu HBAD HGOOD HKC2 OA HT zx
                      go_wp2_with (first | (at_make; refine Stop.un ?_) | (at_builtin; refine Stop.un ?_) | (with_reducible refine Stop.conv 22 9 ?_) | (with_reducible refine Stop.conv 9 22 ?_))
                      exact bodyPost_ret (v := .tuple #[.slice none 0 0, .int .i64 7]) (by simp [results, Try.results20, go_sem]) rfl (HR1.out _ 7 HE7.out (by decide) bw)
                  ·
                    have HG2 := Lib.hid (HGOOD.out (by rfl))
                    have HAK : Hid (agK kinds ⟨4, (cc : Int)⟩ = kdAt kinds (cc : Int)) := Lib.hid (by rfl)
                    clear HBAD HGOOD HKC2
                    go_wp2_with (first | (at_make; refine Stop.un ?_) | (at_builtin; refine Stop.un ?_) | (with_reducible refine Stop.conv 22 9 ?_) | (with_reducible refine Stop.conv 9 22 ?_))
                    refine Stop.mk (app_k2 (u := kdAt kinds (cc : Int)) w _ _ rfl rfl OA rfl rfl rfl (by omega) ?_)
                    intro a5 c5 w5 O5 g5 k5
                    rw [List.append_assoc, ← HAK.out, ← HT.out] at O5
                    clear OA g5 k5 d0 d1 zx HT HAK y0
                    go_wp2_with (first | (at_make; refine Stop.un ?_) | (at_builtin; refine Stop.un ?_) | (with_reducible refine Stop.conv 22 9 ?_) | (with_reducible refine Stop.conv 9 22 ?_))
                    go_roundw
                    case rel => exact ⟨p + 1, a5, c5, by omega, by go_num, rfl, O5, HG2⟩
                    case measure => simp [intOf]; omega
                  ·
                    have HG2 := Lib.hid (HGOOD.out (by rfl))
                    have HAK : Hid (agK kinds ⟨5, (cc : Int)⟩ = kdAt kinds (cc : Int)) := Lib.hid (by rfl)
                    clear HBAD HGOOD HKC2
                    go_wp2_with (first | (at_make; refine Stop.un ?_) | (at_builtin; refine Stop.un ?_) | (with_reducible refine Stop.conv 22 9 ?_) | (with_reducible refine Stop.conv 9 22 ?_))
                    refine Stop.mk (app_k2 (u := kdAt kinds (cc : Int)) w _ _ rfl rfl OA rfl rfl rfl (by omega) ?_)
                    intro a5 c5 w5 O5 g5 k5
                    rw [List.append_assoc, ← HAK.out, ← HT.out] at O5
                    clear OA g5 k5 d0 d1 zx HT HAK y0
                    go_wp2_with (first | (at_make; refine Stop.un ?_) | (at_builtin; refine Stop.un ?_) | (with_reducible refine Stop.conv 22 9 ?_) | (with_reducible refine Stop.conv 9 22 ?_))
                    go_roundw
                    case rel => exact ⟨p + 1, a5, c5, by omega, by go_num, rfl, O5, HG2⟩
                    case measure => simp [intOf]; omega
              · obtain rfl : p = i := by omega
                have htk : ags.take p = ags := List.take_of_length_le (by have := HN.out.2.2; omega)
                have HE5 : Hid (E = 0) := Lib.hid (by
                  have h1 := HB.out
                  rw [htk] at h1
                  rw [HE4.out, h1]; rfl)
                rw [htk] at O
                have HRA : Hid (RetKinds w E LL (.returned (.tuple #[.slice ab (j + p) cb, .int .i64 0])) wr) := Lib.hid ⟨ab, j + p, cb, by rw [HE5.out], by rw [HE5.out, ← HLL.out]; exact O⟩
                clear O HB htk
                go_wp2_with (first | (at_make; refine Stop.un ?_) | (at_builtin; refine Stop.un ?_) | (with_reducible refine Stop.conv 22 9 ?_) | (with_reducible refine Stop.conv 9 22 ?_))
                exact bodyPost_ret (v := .tuple #[.slice ab (j + p) cb, .int .i64 0]) (by simp [results, Try.results20, go_sem]) rfl HRA.out
end Go.Proofs.Ytbiniecjenencaa
