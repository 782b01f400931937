/- The kinds of what is told of groups. -/
import Derived.Test.YtbiniecjenencaaGIdx
import Derived.Test.YtbiniecjenencaaGRow
import Derived.Test.YtbiniecjenencaaByt
set_option linter.unusedVariables false
set_option linter.unusedSimpArgs false
set_option maxRecDepth 10000
namespace Go.Proofs.Ytbiniecjenencaa
open Go.RowKit
/-- May these be columns by which rows are grouped? -/
def byB (n : Nat) (l : List Int) : Bool := l.all (isCol n) && decide l.Nodup
/-- May that be told? -/
def agB (n : Nat) (x : Ag) : Bool := if x.op = 1 then decide (x.col = 0) else decide (2 ≤ x.op) && decide (x.op ≤ 5) && isCol n x.col
def kdAt (kinds : List UInt8) (c : Int) : UInt8 := kinds.getD c.toNat 0
def agT (kinds : List UInt8) (x : Ag) : Bool := decide (x.op = 3) && !decide (kdAt kinds x.col = 2)
def agK (kinds : List UInt8) (x : Ag) : UInt8 := if x.op = 4 ∨ x.op = 5 then kdAt kinds x.col else 2
/-- The error of kinds. -/
def kindsE (kinds : List UInt8) (by_ : List Int) (ags : List Ag) : Int :=
  if 8 < by_.length + ags.length then 3 else if byB kinds.length by_ = false then 1 else if ags.all (agB kinds.length) = false then 1 else if ags.any (agT kinds) = true then 7 else 0
def kindsL (kinds : List UInt8) (by_ : List Int) (ags : List Ag) : List UInt8 := by_.map (kdAt kinds) ++ ags.map (agK kinds)
def kR (E : Int) (L : List UInt8) : List UInt8 := if E = 0 then L else []
theorem byB_bad {n : Nat} {l : List Int} {j : Nat} (h : j < l.length) (hb : isCol n l[j] = false ∨ l[j] ∈ l.take j) : byB n l = false := by
  unfold byB
  rcases hb with hb | hb
  · have : l.all (isCol n) = false := by
      rw [List.all_eq_false]
      exact ⟨l[j], List.getElem_mem _, by rw [hb]; decide⟩
    rw [this]; rfl
  · have : ¬ l.Nodup := fun hn => by
      rw [← List.take_append_drop j l, List.nodup_append] at hn
      refine hn.2.2 _ hb l[j] ?_ rfl
      rw [List.drop_eq_getElem_cons h]
      exact List.mem_cons_self
    rw [decide_eq_false this, Bool.and_false]
theorem byB_step {n : Nat} {l : List Int} {j : Nat} (h : j < l.length) (h1 : byB n (l.take j) = true) (h2 : isCol n l[j] = true) (h3 : l[j] ∉ l.take j) : byB n (l.take (j + 1)) = true := by
  rw [List.take_succ_eq_append_getElem h]
  unfold byB at h1 ⊢
  rw [Bool.and_eq_true, decide_eq_true_eq] at h1 ⊢
  refine ⟨by rw [List.all_append, h1.1]; simp [h2], ?_⟩
  rw [List.nodup_append]
  exact ⟨h1.2, by simp, fun a ha b hb e => h3 (by rw [List.mem_singleton] at hb; rw [← hb, ← e]; exact ha)⟩
theorem kcell {w : World} {b o : Nat} {kinds : List UInt8} (h : Cs w (some ⟨b, o, none⟩) (bcells kinds)) {cc : Nat} (hc : cc < kinds.length) : w.cell? ⟨b, o + cc, none⟩ = some (.int .u8 (((kdAt kinds cc).toNat : Nat) : Int)) := by
  refine h.at ?_
  rw [bcells_get _ _ hc]
  simp [kdAt, hc]
set_option maxRecDepth 100000 in
set_option maxHeartbeats 8000000 in
theorem gkinds_any (ka : Option Addr) (kn kc : Nat) (kinds : List UInt8) (ba : Option Addr) (bn bc : Nat) (bs : List Int) (ga : Option Addr) (gn gc : Nat) (ags : List Ag) (w : World)
    (h1 : Cs w ka (bcells kinds)) (e1 : kinds.length = kn) (m1 : kn ≤ kc) (c1 : kc ≤ maxLen)
    (h2 : Cs w ba (icells bs)) (e2 : bs.length = bn) (m2 : bn ≤ bc) (c2 : bc ≤ maxLen) (s2 : bn ≤ 1000)
    (h3 : Cs w ga (agcells ags)) (e3 : ags.length = gn) (m3 : gn ≤ gc) (c3 : gc ≤ maxLen) (s3 : gn ≤ 1000) :
    Calls Try.prog 19 #[.slice ka kn kc, .slice ba bn bc, .slice ga gn gc] w (fun e w' => ∃ a n c, e = .returned (.tuple #[.slice a n c, .int .i64 (kindsE kinds bs ags)]) ∧ OwnB w w' (.slice a n c) n (kR (kindsE kinds bs ags) (kindsL kinds bs ags))) := by
  unfold maxLen at c1 c2 c3
  have HN := Lib.hid (And.intro e1 (And.intro e2 e3))
  have b1 := (Below.refl w.heap.size w).alloc (Nat.le_refl _) (.cells #[.slice ka kn kc] 22)
  have zb := At.new w #[.slice ka kn kc] 22
  have HTT := Lib.hid (And.intro h1 (And.intro h2 h3))
  obtain ⟨E, hE⟩ : ∃ E, kindsE kinds bs ags = E := ⟨_, rfl⟩
  have HE := Lib.hid hE
  rw [hE]
  clear h1 h2 h3 e1 e2 e3 hE
  have HR1 : Hid (∀ w', E = 1 → Below w.heap.size w w' → ∃ a n c, Ending.returned (.tuple #[.slice none 0 0, .int .i64 1]) = Ending.returned (.tuple #[.slice a n c, .int .i64 E]) ∧ OwnB w w' (.slice a n c) n (kR E (kindsL kinds bs ags))) := Lib.hid (fun w' h b => ⟨none, 0, 0, by rw [h], by rw [h]; exact Own.nil _ _ b⟩)
  by_cases h8 : 8 < bn + gn
  · obtain rfl : E = 3 := by
      rw [← HE.out]
      exact if_pos (by rw [HN.out.2.1, HN.out.2.2]; exact h8)
    have h8d : decide ((8 : Int) < (bn : Int) + (gn : Int)) = true := decide_eq_true (by omega)
    go_enter Try.func19, Try.ntmps19
    go_wp2_with (first | (at_make; refine Stop.un ?_) | (at_builtin; refine Stop.un ?_) | (with_reducible refine Stop.conv 22 9 ?_) | (with_reducible refine Stop.conv 9 22 ?_))
    exact bodyPost_ret (v := .tuple #[.slice none 0 0, .int .i64 3]) (by simp [results, Try.results19, go_sem]) rfl ⟨none, 0, 0, rfl, Own.nil _ _ b1⟩
  · have h8d : decide ((8 : Int) < (bn : Int) + (gn : Int)) = false := decide_eq_false (by omega)
    have HE2 : Hid (E = if byB kn bs = false then 1 else if ags.all (agB kn) = false then 1 else if ags.any (agT kinds) = true then 7 else 0) := Lib.hid (by
      rw [← HE.out]
      unfold kindsE
      rw [if_neg (by rw [HN.out.2.1, HN.out.2.2]; exact h8), HN.out.1])
    have hb8 : bn ≤ 8 := by omega
    have hg8 : gn ≤ 8 := by omega
    clear HE h8
    go_enter Try.func19, Try.ntmps19
    go_upto_region 1 with fail
    generalize w.alloc (.cells #[.slice ka kn kc] 22) = wA at zb b1 ⊢
    have hgb : w.heap.size ≤ w.heap.size := Nat.le_refl _
    obtain ⟨gb, hgbe⟩ : ∃ gb, w.heap.size = gb := ⟨_, rfl⟩
    rw [hgbe] at zb ⊢
    have HGB : Hid (w.heap.size ≤ gb) := Lib.hid (by omega)
    clear hgb hgbe
    go_wp2_with (first | (at_make; refine Stop.un ?_) | (at_builtin; refine Stop.un ?_) | (with_reducible refine Stop.conv 22 9 ?_) | (with_reducible refine Stop.conv 9 22 ?_))
    go_loopw [25, 9] (fun iv ov wr => ∃ (j : Nat) (ab : Option Addr) (cb : Nat), j ≤ bn ∧ iv = .int .i64 (j : Int) ∧ ov = .slice ab j cb ∧ OwnB w wr (.slice ab j cb) j ((bs.take j).map (kdAt kinds)) ∧ At wr gb #[.slice ka kn kc] 22 ∧ (Value.slice ab j cb).ownBlock ≠ some gb ∧ Hid (byB kn (bs.take j) = true)) (fun iv _ _ => bn - (intOf iv).toNat)
    case atStart => exact ⟨0, none, 0, Nat.zero_le _, rfl, rfl, Own.nil _ _ b1, zb, by simp [Value.ownBlock], Lib.hid (by unfold byB; simp)⟩
    case round =>
      clear b1 zb
      obtain ⟨j, ab, cb, hj, rfl, rfl, O, zb, hne, HB⟩ := hrel
      by_cases hlt : j < bn
      · have hjl : j < bs.length := by have := HN.out.2.1; omega
        have h2 := HTT.out.2.1.mono (Own.below O) (Nat.le_refl _)
        have h1 := HTT.out.1.mono (Own.below O) (Nat.le_refl _)
        obtain ⟨b, o, rfl⟩ := h2.addr (by rw [icells_length]; omega)
        have x0 : wr.cell? ⟨b, o + j, none⟩ = some (.int .i64 bs[j]) := h2.at (by simp [icells, hjl])
        have h2t : Cs wr (some ⟨b, o, none⟩) (icells (bs.take j)) := by
          have := h2.take j
          rwa [show (icells bs).take j = icells (bs.take j) by simp [icells, List.map_take]] at this
        have HT : Hid ((bs.take (j + 1)).map (kdAt kinds) = (bs.take j).map (kdAt kinds) ++ [kdAt kinds bs[j]]) := Lib.hid (by rw [List.take_succ_eq_append_getElem hjl, List.map_append]; rfl)
        have HBAD : Hid (isCol kn bs[j] = false ∨ bs[j] ∈ bs.take j → E = 1) := Lib.hid (fun hb => by rw [HE2.out, byB_bad hjl hb]; rfl)
        have HGOOD : Hid (isCol kn bs[j] = true → bs[j] ∉ bs.take j → byB kn (bs.take (j + 1)) = true) := Lib.hid (fun a b => byB_step hjl HB.out a b)
        have htl : (bs.take j).length = j := by rw [List.length_take]; omega
        have HC := Lib.hid (fun x => gcontains_any (some ⟨b, o, none⟩) j bc (bs.take j) x wr h2t htl (by omega) (by unfold maxLen; omega))
        have HI := Lib.hid (fun x => iscol_any x gb ka kn kc wr zb m1 (by unfold maxLen; omega))
        have hcl : isCol kn bs[j] = true → ∃ cc : Nat, bs[j] = (cc : Int) ∧ cc < kn := fun h => by
          unfold isCol at h
          rw [Bool.and_eq_true, decide_eq_true_eq, decide_eq_true_eq] at h
          exact ⟨bs[j].toNat, by omega, by omega⟩
        have HKC : Hid (∀ cc : Nat, cc < kn → ∃ kb ko, ka = some ⟨kb, ko, none⟩ ∧ wr.cell? ⟨kb, ko + cc, none⟩ = some (.int .u8 (((kdAt kinds cc).toNat : Nat) : Int))) := Lib.hid (fun cc hcc => by
          obtain ⟨kb, ko, rfl⟩ := h1.addr (by rw [bcells_length, HN.out.1]; omega)
          exact ⟨kb, ko, rfl, kcell h1 (by rw [HN.out.1]; exact hcc)⟩)
        have HCL := Lib.hid hcl
        have xl := lt_cell x0
        clear hcl htl h2 h1
        generalize bs[j] = x at x0 HT HBAD HGOOD HCL
        clear hjl
        cases hq : isCol kn x with
        | false =>
          have HE1 := Lib.hid (HBAD.out (.inl hq))
          have HI2 := Lib.hid (HI.out x)
          rw [hq] at HI2
          have bw := Own.below O
          clear HBAD HGOOD HC HI O zb HKC HCL h2t HT hq
          go_wp2_with (first | (at_make; refine Stop.un ?_) | (at_builtin; refine Stop.un ?_) | (with_reducible refine Stop.conv 22 9 ?_) | (with_reducible refine Stop.conv 9 22 ?_))
          refine HI2.out.mono ?_
          rintro e9 w9 ⟨rfl, rfl⟩
          clear HI2
          go_wp2_with (first | (at_make; refine Stop.un ?_) | (at_builtin; refine Stop.un ?_) | (with_reducible refine Stop.conv 22 9 ?_) | (with_reducible refine Stop.conv 9 22 ?_))
          exact bodyPost_ret (v := .tuple #[.slice none 0 0, .int .i64 1]) (by simp [results, Try.results19, go_sem]) rfl (HR1.out _ HE1.out bw)
        | true =>
          obtain ⟨cc, rfl, hcc⟩ := HCL.out hq
          obtain ⟨kb, ko, rfl, y0⟩ := HKC.out cc hcc
          have HI2 := Lib.hid (HI.out cc)
          rw [hq] at HI2
          have HC2 := Lib.hid (HC.out cc)
          by_cases hm : (cc : Int) ∈ bs.take j
          · have HE1 := Lib.hid (HBAD.out (.inr hm))
            rw [decide_eq_true hm] at HC2
            have bw := Own.below O
            clear HBAD HGOOD HC HI O zb hm HKC HCL h2t HT hq
            go_wp2_with (first | (at_make; refine Stop.un ?_) | (at_builtin; refine Stop.un ?_) | (with_reducible refine Stop.conv 22 9 ?_) | (with_reducible refine Stop.conv 9 22 ?_))
            refine HI2.out.mono ?_
            rintro e9 w9 ⟨rfl, rfl⟩
            clear HI2
            go_wp2_with (first | (at_make; refine Stop.un ?_) | (at_builtin; refine Stop.un ?_) | (with_reducible refine Stop.conv 22 9 ?_) | (with_reducible refine Stop.conv 9 22 ?_))
            refine HC2.out.mono ?_
            rintro e9 w9 ⟨rfl, rfl⟩
            clear HC2
            go_wp2_with (first | (at_make; refine Stop.un ?_) | (at_builtin; refine Stop.un ?_) | (with_reducible refine Stop.conv 22 9 ?_) | (with_reducible refine Stop.conv 9 22 ?_))
            exact bodyPost_ret (v := .tuple #[.slice none 0 0, .int .i64 1]) (by simp [results, Try.results19, go_sem]) rfl (HR1.out _ HE1.out bw)
          · have HB2 := Lib.hid (HGOOD.out hq hm)
            rw [decide_eq_false hm] at HC2
            have c0 := zb.cell 0 rfl
            clear HBAD HGOOD HC HI hm HKC HCL h2t hq
            go_wp2_with (first | (at_make; refine Stop.un ?_) | (at_builtin; refine Stop.un ?_) | (with_reducible refine Stop.conv 22 9 ?_) | (with_reducible refine Stop.conv 9 22 ?_))
            refine HI2.out.mono ?_
            rintro e9 w9 ⟨rfl, rfl⟩
            clear HI2
            go_wp2_with (first | (at_make; refine Stop.un ?_) | (at_builtin; refine Stop.un ?_) | (with_reducible refine Stop.conv 22 9 ?_) | (with_reducible refine Stop.conv 9 22 ?_))
            refine HC2.out.mono ?_
            rintro e9 w9 ⟨rfl, rfl⟩
            clear HC2
            go_wp2_with (first | (at_make; refine Stop.un ?_) | (at_builtin; refine Stop.un ?_) | (with_reducible refine Stop.conv 22 9 ?_) | (with_reducible refine Stop.conv 9 22 ?_))
            refine Stop.mk (app_k1 (u := kdAt kinds (cc : Int)) w _ _ rfl rfl O rfl rfl (by omega) ?_)
            intro a5 c5 w5 O5 g5 k5
            have zb5 := zb.grownK g5 hne
            have hne5 : (Value.slice a5 (j + 1) c5).ownBlock ≠ some gb := fun e => (k5 gb e).elim hne (fun h => by have := zb.lt; omega)
            rw [← HT.out] at O5
            clear O zb hne g5 k5 c0 y0 x0 xl HT
            go_wp2_with (first | (at_make; refine Stop.un ?_) | (at_builtin; refine Stop.un ?_) | (with_reducible refine Stop.conv 22 9 ?_) | (with_reducible refine Stop.conv 9 22 ?_))
            go_roundw
            case rel => exact ⟨j + 1, a5, c5, by omega, by go_num, rfl, O5, zb5, hne5, HB2⟩
            case measure => simp [intOf]; omega
      · obtain rfl : j = bn := by omega
        have htk : bs.take j = bs := List.take_of_length_le (by have := HN.out.2.1; omega)
        rw [htk] at O
        have HE3 : Hid (E = if ags.all (agB kn) = false then 1 else if ags.any (agT kinds) = true then 7 else 0) := Lib.hid (by
          have h1 := HB.out
          rw [htk] at h1
          rw [HE2.out, h1]; rfl)
        clear HB htk HE2
        have HOUT : Hid (bs.map (kdAt kinds) = bs.map (kdAt kinds) ++ (ags.take 0).map (agK kinds)) := Lib.hid (by simp)
        have O0 : OwnB w wr (.slice ab (j + 0) cb) (j + 0) (bs.map (kdAt kinds) ++ (ags.take 0).map (agK kinds)) := by rw [← HOUT.out]; exact O
        clear O HOUT hlt
        go_wp2_with (first | (at_make; refine Stop.un ?_) | (at_builtin; refine Stop.un ?_) | (with_reducible refine Stop.conv 22 9 ?_) | (with_reducible refine Stop.conv 9 22 ?_))
        go_loopw [51, 12, 9] (fun iv ev ov wr => ∃ (i : Nat) (er : Int) (ab : Option Addr) (cb : Nat), i ≤ gn ∧ iv = .int .i64 (i : Int) ∧ ev = .int .i64 er ∧ ov = .slice ab (j + i) cb ∧ OwnB w wr (.slice ab (j + i) cb) (j + i) (bs.map (kdAt kinds) ++ (ags.take i).map (agK kinds)) ∧ At wr gb #[.slice ka kn kc] 22 ∧ (Value.slice ab (j + i) cb).ownBlock ≠ some gb ∧ Hid ((ags.take i).all (agB kn) = true) ∧ Hid (er = if (ags.take i).any (agT kinds) = true then 7 else 0)) (fun iv _ _ _ => gn - (intOf iv).toNat)
        case atStart => exact ⟨0, 0, ab, cb, Nat.zero_le _, rfl, rfl, rfl, O0, zb, hne, Lib.hid rfl, Lib.hid rfl⟩
        case round =>
          clear O0 zb hne
          obtain ⟨i, er, ab, cb, hi, rfl, rfl, rfl, O, zb, hne, HB, HER⟩ := hrel
          by_cases hlt : i < gn
          · have hil : i < ags.length := by have := HN.out.2.2; omega
            have bb := Own.below O
            have h3 := HTT.out.2.2.mono bb (Nat.le_refl _)
            have h1 := HTT.out.1.mono bb (Nat.le_refl _)
            obtain ⟨b, o, rfl⟩ := h3.addr (by rw [agcells_length]; omega)
            obtain ⟨x0, x1⟩ := h3.agat hil
            have HT : Hid ((ags.take (i + 1)).map (agK kinds) = (ags.take i).map (agK kinds) ++ [agK kinds ags[i]]) := Lib.hid (by rw [List.take_succ_eq_append_getElem hil, List.map_append]; rfl)
            have HBAD : Hid (agB kn ags[i] = false → E = 1) := Lib.hid (fun hb => by
              have : ags.all (agB kn) = false := by
                rw [List.all_eq_false]
                exact ⟨ags[i], List.getElem_mem _, by rw [hb]; decide⟩
              rw [HE3.out, this]; rfl)
            have HGOOD : Hid (agB kn ags[i] = true → (ags.take (i + 1)).all (agB kn) = true) := Lib.hid (fun h => by
              rw [List.take_succ_eq_append_getElem hil, List.all_append, HB.out]; simp [h])
            have HER2 : Hid (∀ e2 : Int, (e2 = if agT kinds ags[i] = true then 7 else er) → e2 = if (ags.take (i + 1)).any (agT kinds) = true then 7 else 0) := Lib.hid (fun e2 he => by
              rw [he, HER.out, List.take_succ_eq_append_getElem hil, List.any_append]
              cases h1 : agT kinds ags[i] <;> cases h2 : (ags.take i).any (agT kinds) <;> simp [h1])
            have HKC : Hid (∀ cc : Nat, cc < kn → ∃ kb ko, ka = some ⟨kb, ko, none⟩ ∧ wr.cell? ⟨kb, ko + cc, none⟩ = some (.int .u8 (((kdAt kinds cc).toNat : Nat) : Int))) := Lib.hid (fun cc hcc => by
              obtain ⟨kb, ko, rfl⟩ := h1.addr (by rw [bcells_length, HN.out.1]; omega)
              exact ⟨kb, ko, rfl, kcell h1 (by rw [HN.out.1]; exact hcc)⟩)
            have xl := lt_cell x0
            clear h3 h1
            generalize ags[i] = x at x0 x1 HT HBAD HGOOD HER2
            clear hil
            obtain ⟨op, col⟩ := x
            simp only at x0 x1
            have zx := At.new wr #[.int .u8 op, .int .i64 col] 34
            have zb2 := zb.alloc (.cells #[.int .u8 op, .int .i64 col] 34)
            have OA := Own.alloc O (.cells #[.int .u8 op, .int .i64 col] 34)
            have HKC2 : Hid (∀ cc : Nat, cc < kn → ∃ kb ko, ka = some ⟨kb, ko, none⟩ ∧ (wr.alloc (.cells #[.int .u8 op, .int .i64 col] 34)).cell? ⟨kb, ko + cc, none⟩ = some (.int .u8 (((kdAt kinds cc).toNat : Nat) : Int))) := Lib.hid (fun cc hcc => by
              obtain ⟨kb, ko, e, h⟩ := HKC.out cc hcc
              exact ⟨kb, ko, e, Ext.cell ((Below.refl wr.heap.size wr).alloc (Nat.le_refl _) _) h⟩)
            clear bb HKC
            go_upto_region 16 with fail
            generalize wr.alloc (.cells #[.int .u8 op, .int .i64 col] 34) = wA at zx zb2 OA HKC2 ⊢
            generalize wr.heap.size = gx at zx ⊢
            clear O zb x0 x1 xl
            by_cases o1 : op = 1
            ·
              subst o1
              by_cases c0 : col = 0
              ·
                subst c0
                have HG2 := Lib.hid (HGOOD.out (by rfl))
                have HAK : Hid (agK kinds ⟨1, 0⟩ = 2) := Lib.hid (by rfl)
                have HER3 := Lib.hid (HER2.out er (by rw [show agT kinds ⟨1, 0⟩ = false from by rfl]; rfl))
                have d0 := zx.cell 0 rfl
                have d1 := zx.cell 1 rfl
                have d2 := zb2.cell 0 rfl
                clear HBAD HGOOD HER2 HKC2
                go_wp2_with (first | (at_make; refine Stop.un ?_) | (at_builtin; refine Stop.un ?_) | (with_reducible refine Stop.conv 22 9 ?_) | (with_reducible refine Stop.conv 9 22 ?_))
                refine Stop.mk (app_k2 (u := 2) w _ _ rfl rfl OA rfl rfl rfl (by omega) ?_)
                intro a5 c5 w5 O5 g5 k5
                have zb5 := zb2.grownK g5 hne
                have hne5 : (Value.slice a5 (j + i + 1) c5).ownBlock ≠ some gb := fun e => (k5 gb e).elim hne (fun h => by have := zb2.lt; omega)
                rw [List.append_assoc, ← HAK.out, ← HT.out] at O5
                clear OA zb2 hne g5 k5 d0 d1 d2 zx HT HAK
                go_wp2_with (first | (at_make; refine Stop.un ?_) | (at_builtin; refine Stop.un ?_) | (with_reducible refine Stop.conv 22 9 ?_) | (with_reducible refine Stop.conv 9 22 ?_))
                go_roundw
                case rel => exact ⟨i + 1, _, a5, c5, by omega, by go_num, rfl, rfl, O5, zb5, hne5, HG2, HER3⟩
                case measure => simp [intOf]; omega
              ·
                have HE1 := Lib.hid (HBAD.out (by unfold agB; rw [if_pos rfl]; exact decide_eq_false c0))
                have bw := Own.below OA
                have hc0 : (col != 0) = true := by simpa using c0
                clear c0
                have d0 := zx.cell 0 rfl
                have d1 := zx.cell 1 rfl
                clear HBAD HGOOD HER2 HKC2 OA zb2 HT zx hne
                go_wp2_with (first | (at_make; refine Stop.un ?_) | (at_builtin; refine Stop.un ?_) | (with_reducible refine Stop.conv 22 9 ?_) | (with_reducible refine Stop.conv 9 22 ?_))
                exact bodyPost_ret (v := .tuple #[.slice none 0 0, .int .i64 1]) (by simp [results, Try.results19, go_sem]) rfl (HR1.out _ HE1.out bw)
            ·
              by_cases o2 : 2 ≤ op ∧ op ≤ 5
              ·
                cases hq : isCol kn col with
                | false =>
                  have o4 : op = 2 ∨ op = 3 ∨ op = 4 ∨ op = 5 := by omega
                  clear o1 o2
                  rcases o4 with rfl | rfl | rfl | rfl
                  ·
                    have HE1 := Lib.hid (HBAD.out (by unfold agB; rw [if_neg (show ¬ ((2 : Int) = 1) by decide), hq]; rfl))
                    have bw := Own.below OA
                    have d0 := zx.cell 0 rfl
                    have d1 := zx.cell 1 rfl
                    have HI := iscol_any col gb ka kn kc wA zb2 m1 (by unfold maxLen; omega)
                    rw [hq] at HI
                    have HI2 := Lib.hid HI
                    clear HI hq
                    clear HBAD HGOOD HER2 HKC2 OA zb2 HT zx hne
                    go_wp2_with (first | (at_make; refine Stop.un ?_) | (at_builtin; refine Stop.un ?_) | (with_reducible refine Stop.conv 22 9 ?_) | (with_reducible refine Stop.conv 9 22 ?_))
                    refine HI2.out.mono ?_
                    rintro e9 w9 ⟨rfl, rfl⟩
                    clear HI2
                    go_wp2_with (first | (at_make; refine Stop.un ?_) | (at_builtin; refine Stop.un ?_) | (with_reducible refine Stop.conv 22 9 ?_) | (with_reducible refine Stop.conv 9 22 ?_))
                    exact bodyPost_ret (v := .tuple #[.slice none 0 0, .int .i64 1]) (by simp [results, Try.results19, go_sem]) rfl (HR1.out _ HE1.out bw)
                  ·
                    have HE1 := Lib.hid (HBAD.out (by unfold agB; rw [if_neg (show ¬ ((3 : Int) = 1) by decide), hq]; rfl))
                    have bw := Own.below OA
                    have d0 := zx.cell 0 rfl
                    have d1 := zx.cell 1 rfl
                    have HI := iscol_any col gb ka kn kc wA zb2 m1 (by unfold maxLen; omega)
                    rw [hq] at HI
                    have HI2 := Lib.hid HI
                    clear HI hq
                    clear HBAD HGOOD HER2 HKC2 OA zb2 HT zx hne
                    go_wp2_with (first | (at_make; refine Stop.un ?_) | (at_builtin; refine Stop.un ?_) | (with_reducible refine Stop.conv 22 9 ?_) | (with_reducible refine Stop.conv 9 22 ?_))
                    refine HI2.out.mono ?_
                    rintro e9 w9 ⟨rfl, rfl⟩
                    clear HI2
                    go_wp2_with (first | (at_make; refine Stop.un ?_) | (at_builtin; refine Stop.un ?_) | (with_reducible refine Stop.conv 22 9 ?_) | (with_reducible refine Stop.conv 9 22 ?_))
                    exact bodyPost_ret (v := .tuple #[.slice none 0 0, .int .i64 1]) (by simp [results, Try.results19, go_sem]) rfl (HR1.out _ HE1.out bw)
                  ·
                    have HE1 := Lib.hid (HBAD.out (by unfold agB; rw [if_neg (show ¬ ((4 : Int) = 1) by decide), hq]; rfl))
                    have bw := Own.below OA
                    have d0 := zx.cell 0 rfl
                    have d1 := zx.cell 1 rfl
                    have HI := iscol_any col gb ka kn kc wA zb2 m1 (by unfold maxLen; omega)
                    rw [hq] at HI
                    have HI2 := Lib.hid HI
                    clear HI hq
                    clear HBAD HGOOD HER2 HKC2 OA zb2 HT zx hne
                    go_wp2_with (first | (at_make; refine Stop.un ?_) | (at_builtin; refine Stop.un ?_) | (with_reducible refine Stop.conv 22 9 ?_) | (with_reducible refine Stop.conv 9 22 ?_))
                    refine HI2.out.mono ?_
                    rintro e9 w9 ⟨rfl, rfl⟩
                    clear HI2
                    go_wp2_with (first | (at_make; refine Stop.un ?_) | (at_builtin; refine Stop.un ?_) | (with_reducible refine Stop.conv 22 9 ?_) | (with_reducible refine Stop.conv 9 22 ?_))
                    exact bodyPost_ret (v := .tuple #[.slice none 0 0, .int .i64 1]) (by simp [results, Try.results19, go_sem]) rfl (HR1.out _ HE1.out bw)
                  ·
                    have HE1 := Lib.hid (HBAD.out (by unfold agB; rw [if_neg (show ¬ ((5 : Int) = 1) by decide), hq]; rfl))
                    have bw := Own.below OA
                    have d0 := zx.cell 0 rfl
                    have d1 := zx.cell 1 rfl
                    have HI := iscol_any col gb ka kn kc wA zb2 m1 (by unfold maxLen; omega)
                    rw [hq] at HI
                    have HI2 := Lib.hid HI
                    clear HI hq
                    clear HBAD HGOOD HER2 HKC2 OA zb2 HT zx hne
                    go_wp2_with (first | (at_make; refine Stop.un ?_) | (at_builtin; refine Stop.un ?_) | (with_reducible refine Stop.conv 22 9 ?_) | (with_reducible refine Stop.conv 9 22 ?_))
                    refine HI2.out.mono ?_
                    rintro e9 w9 ⟨rfl, rfl⟩
                    clear HI2
                    go_wp2_with (first | (at_make; refine Stop.un ?_) | (at_builtin; refine Stop.un ?_) | (with_reducible refine Stop.conv 22 9 ?_) | (with_reducible refine Stop.conv 9 22 ?_))
                    exact bodyPost_ret (v := .tuple #[.slice none 0 0, .int .i64 1]) (by simp [results, Try.results19, go_sem]) rfl (HR1.out _ HE1.out bw)
                | true =>
                  have hcl : ∃ cc : Nat, col = (cc : Int) ∧ cc < kn := by
                    unfold isCol at hq
                    rw [Bool.and_eq_true, decide_eq_true_eq, decide_eq_true_eq] at hq
                    exact ⟨col.toNat, by omega, by omega⟩
                  obtain ⟨cc, rfl, hcc⟩ := hcl
                  obtain ⟨kb, ko, rfl, y0⟩ := HKC2.out cc hcc
                  have o4 : op = 2 ∨ op = 3 ∨ op = 4 ∨ op = 5 := by omega
                  clear o1 o2
                  rcases o4 with rfl | rfl | rfl | rfl
                  ·
                    have HG2 := Lib.hid (HGOOD.out (by unfold agB; rw [if_neg (show ¬ ((2 : Int) = 1) by decide), hq]; rfl))
                    have HAK : Hid (agK kinds ⟨2, (cc : Int)⟩ = 2) := Lib.hid (by rfl)
                    have HER3 := Lib.hid (HER2.out er (by rw [show agT kinds ⟨2, (cc : Int)⟩ = false from by rfl]; rfl))
                    have d0 := zx.cell 0 rfl
                    have d1 := zx.cell 1 rfl
                    have d2 := zb2.cell 0 rfl
                    have HI := iscol_any (cc : Int) gb _ kn kc wA zb2 m1 (by unfold maxLen; omega)
                    rw [hq] at HI
                    have HI2 := Lib.hid HI
                    clear HI hq
                    clear HBAD HGOOD HER2 HKC2
                    go_wp2_with (first | (at_make; refine Stop.un ?_) | (at_builtin; refine Stop.un ?_) | (with_reducible refine Stop.conv 22 9 ?_) | (with_reducible refine Stop.conv 9 22 ?_))
                    refine HI2.out.mono ?_
                    rintro e9 w9 ⟨rfl, rfl⟩
                    clear HI2
                    go_wp2_with (first | (at_make; refine Stop.un ?_) | (at_builtin; refine Stop.un ?_) | (with_reducible refine Stop.conv 22 9 ?_) | (with_reducible refine Stop.conv 9 22 ?_))
                    refine Stop.mk (app_k2 (u := 2) w _ _ rfl rfl OA rfl rfl rfl (by omega) ?_)
                    intro a5 c5 w5 O5 g5 k5
                    have zb5 := zb2.grownK g5 hne
                    have hne5 : (Value.slice a5 (j + i + 1) c5).ownBlock ≠ some gb := fun e => (k5 gb e).elim hne (fun h => by have := zb2.lt; omega)
                    rw [List.append_assoc, ← HAK.out, ← HT.out] at O5
                    clear OA zb2 hne g5 k5 d0 d1 d2 zx HT HAK y0
                    go_wp2_with (first | (at_make; refine Stop.un ?_) | (at_builtin; refine Stop.un ?_) | (with_reducible refine Stop.conv 22 9 ?_) | (with_reducible refine Stop.conv 9 22 ?_))
                    go_roundw
                    case rel => exact ⟨i + 1, _, a5, c5, by omega, by go_num, rfl, rfl, O5, zb5, hne5, HG2, HER3⟩
                    case measure => simp [intOf]; omega
                  ·
                    by_cases hu : kdAt kinds (cc : Int) = 2
                    ·
                      have HG2 := Lib.hid (HGOOD.out (by unfold agB; rw [if_neg (show ¬ ((3 : Int) = 1) by decide), hq]; rfl))
                      have HAK : Hid (agK kinds ⟨3, (cc : Int)⟩ = 2) := Lib.hid (by rfl)
                      have HER3 := Lib.hid (HER2.out er (by rw [show agT kinds ⟨3, (cc : Int)⟩ = false from by unfold agT; rw [hu]; rfl]; rfl))
                      have hub : (((kdAt kinds (cc : Int)).toNat : Int) != 2) = false := by rw [hu]; rfl
                      clear hu
                      have d0 := zx.cell 0 rfl
                      have d1 := zx.cell 1 rfl
                      have d2 := zb2.cell 0 rfl
                      have HI := iscol_any (cc : Int) gb _ kn kc wA zb2 m1 (by unfold maxLen; omega)
                      rw [hq] at HI
                      have HI2 := Lib.hid HI
                      clear HI hq
                      clear HBAD HGOOD HER2 HKC2
                      go_wp2_with (first | (at_make; refine Stop.un ?_) | (at_builtin; refine Stop.un ?_) | (with_reducible refine Stop.conv 22 9 ?_) | (with_reducible refine Stop.conv 9 22 ?_))
                      refine HI2.out.mono ?_
                      rintro e9 w9 ⟨rfl, rfl⟩
                      clear HI2
                      go_wp2_with (first | (at_make; refine Stop.un ?_) | (at_builtin; refine Stop.un ?_) | (with_reducible refine Stop.conv 22 9 ?_) | (with_reducible refine Stop.conv 9 22 ?_))
                      refine Stop.mk (app_k2 (u := 2) w _ _ rfl rfl OA rfl rfl rfl (by omega) ?_)
                      intro a5 c5 w5 O5 g5 k5
                      have zb5 := zb2.grownK g5 hne
                      have hne5 : (Value.slice a5 (j + i + 1) c5).ownBlock ≠ some gb := fun e => (k5 gb e).elim hne (fun h => by have := zb2.lt; omega)
                      rw [List.append_assoc, ← HAK.out, ← HT.out] at O5
                      clear OA zb2 hne g5 k5 d0 d1 d2 zx HT HAK y0
                      go_wp2_with (first | (at_make; refine Stop.un ?_) | (at_builtin; refine Stop.un ?_) | (with_reducible refine Stop.conv 22 9 ?_) | (with_reducible refine Stop.conv 9 22 ?_))
                      go_roundw
                      case rel => exact ⟨i + 1, _, a5, c5, by omega, by go_num, rfl, rfl, O5, zb5, hne5, HG2, HER3⟩
                      case measure => simp [intOf]; omega
                    ·
                      have HG2 := Lib.hid (HGOOD.out (by unfold agB; rw [if_neg (show ¬ ((3 : Int) = 1) by decide), hq]; rfl))
                      have HAK : Hid (agK kinds ⟨3, (cc : Int)⟩ = 2) := Lib.hid (by rfl)
                      have HER3 := Lib.hid (HER2.out 7 (by rw [show agT kinds ⟨3, (cc : Int)⟩ = true from by unfold agT; rw [decide_eq_false hu]; rfl]; rfl))
                      have hub : (((kdAt kinds (cc : Int)).toNat : Int) != 2) = true := by
                        have h1 : (kdAt kinds (cc : Int)).toNat ≠ 2 := fun e => hu (UInt8.toNat_inj.1 e)
                        simp
                        omega
                      clear hu
                      have d0 := zx.cell 0 rfl
                      have d1 := zx.cell 1 rfl
                      have d2 := zb2.cell 0 rfl
                      have HI := iscol_any (cc : Int) gb _ kn kc wA zb2 m1 (by unfold maxLen; omega)
                      rw [hq] at HI
                      have HI2 := Lib.hid HI
                      clear HI hq
                      clear HBAD HGOOD HER2 HKC2
                      go_wp2_with (first | (at_make; refine Stop.un ?_) | (at_builtin; refine Stop.un ?_) | (with_reducible refine Stop.conv 22 9 ?_) | (with_reducible refine Stop.conv 9 22 ?_))
                      refine HI2.out.mono ?_
                      rintro e9 w9 ⟨rfl, rfl⟩
                      clear HI2
                      go_wp2_with (first | (at_make; refine Stop.un ?_) | (at_builtin; refine Stop.un ?_) | (with_reducible refine Stop.conv 22 9 ?_) | (with_reducible refine Stop.conv 9 22 ?_))
                      refine Stop.mk (app_k2 (u := 2) w _ _ rfl rfl OA rfl rfl rfl (by omega) ?_)
                      intro a5 c5 w5 O5 g5 k5
                      have zb5 := zb2.grownK g5 hne
                      have hne5 : (Value.slice a5 (j + i + 1) c5).ownBlock ≠ some gb := fun e => (k5 gb e).elim hne (fun h => by have := zb2.lt; omega)
                      rw [List.append_assoc, ← HAK.out, ← HT.out] at O5
                      clear OA zb2 hne g5 k5 d0 d1 d2 zx HT HAK y0
                      go_wp2_with (first | (at_make; refine Stop.un ?_) | (at_builtin; refine Stop.un ?_) | (with_reducible refine Stop.conv 22 9 ?_) | (with_reducible refine Stop.conv 9 22 ?_))
                      go_roundw
                      case rel => exact ⟨i + 1, _, a5, c5, by omega, by go_num, rfl, rfl, O5, zb5, hne5, HG2, HER3⟩
                      case measure => simp [intOf]; omega
                  ·
                    have HG2 := Lib.hid (HGOOD.out (by unfold agB; rw [if_neg (show ¬ ((4 : Int) = 1) by decide), hq]; rfl))
                    have HAK : Hid (agK kinds ⟨4, (cc : Int)⟩ = kdAt kinds (cc : Int)) := Lib.hid (by rfl)
                    have HER3 := Lib.hid (HER2.out er (by rw [show agT kinds ⟨4, (cc : Int)⟩ = false from by rfl]; rfl))
                    have d0 := zx.cell 0 rfl
                    have d1 := zx.cell 1 rfl
                    have d2 := zb2.cell 0 rfl
                    have HI := iscol_any (cc : Int) gb _ kn kc wA zb2 m1 (by unfold maxLen; omega)
                    rw [hq] at HI
                    have HI2 := Lib.hid HI
                    clear HI hq
                    clear HBAD HGOOD HER2 HKC2
                    go_wp2_with (first | (at_make; refine Stop.un ?_) | (at_builtin; refine Stop.un ?_) | (with_reducible refine Stop.conv 22 9 ?_) | (with_reducible refine Stop.conv 9 22 ?_))
                    refine HI2.out.mono ?_
                    rintro e9 w9 ⟨rfl, rfl⟩
                    clear HI2
                    go_wp2_with (first | (at_make; refine Stop.un ?_) | (at_builtin; refine Stop.un ?_) | (with_reducible refine Stop.conv 22 9 ?_) | (with_reducible refine Stop.conv 9 22 ?_))
                    refine Stop.mk (app_k2 (u := kdAt kinds (cc : Int)) w _ _ rfl rfl OA rfl rfl rfl (by omega) ?_)
                    intro a5 c5 w5 O5 g5 k5
                    have zb5 := zb2.grownK g5 hne
                    have hne5 : (Value.slice a5 (j + i + 1) c5).ownBlock ≠ some gb := fun e => (k5 gb e).elim hne (fun h => by have := zb2.lt; omega)
                    rw [List.append_assoc, ← HAK.out, ← HT.out] at O5
                    clear OA zb2 hne g5 k5 d0 d1 d2 zx HT HAK y0
                    go_wp2_with (first | (at_make; refine Stop.un ?_) | (at_builtin; refine Stop.un ?_) | (with_reducible refine Stop.conv 22 9 ?_) | (with_reducible refine Stop.conv 9 22 ?_))
                    go_roundw
                    case rel => exact ⟨i + 1, _, a5, c5, by omega, by go_num, rfl, rfl, O5, zb5, hne5, HG2, HER3⟩
                    case measure => simp [intOf]; omega
                  ·
                    have HG2 := Lib.hid (HGOOD.out (by unfold agB; rw [if_neg (show ¬ ((5 : Int) = 1) by decide), hq]; rfl))
                    have HAK : Hid (agK kinds ⟨5, (cc : Int)⟩ = kdAt kinds (cc : Int)) := Lib.hid (by rfl)
                    have HER3 := Lib.hid (HER2.out er (by rw [show agT kinds ⟨5, (cc : Int)⟩ = false from by rfl]; rfl))
                    have d0 := zx.cell 0 rfl
                    have d1 := zx.cell 1 rfl
                    have d2 := zb2.cell 0 rfl
                    have HI := iscol_any (cc : Int) gb _ kn kc wA zb2 m1 (by unfold maxLen; omega)
                    rw [hq] at HI
                    have HI2 := Lib.hid HI
                    clear HI hq
                    clear HBAD HGOOD HER2 HKC2
                    go_wp2_with (first | (at_make; refine Stop.un ?_) | (at_builtin; refine Stop.un ?_) | (with_reducible refine Stop.conv 22 9 ?_) | (with_reducible refine Stop.conv 9 22 ?_))
                    refine HI2.out.mono ?_
                    rintro e9 w9 ⟨rfl, rfl⟩
                    clear HI2
                    go_wp2_with (first | (at_make; refine Stop.un ?_) | (at_builtin; refine Stop.un ?_) | (with_reducible refine Stop.conv 22 9 ?_) | (with_reducible refine Stop.conv 9 22 ?_))
                    refine Stop.mk (app_k2 (u := kdAt kinds (cc : Int)) w _ _ rfl rfl OA rfl rfl rfl (by omega) ?_)
                    intro a5 c5 w5 O5 g5 k5
                    have zb5 := zb2.grownK g5 hne
                    have hne5 : (Value.slice a5 (j + i + 1) c5).ownBlock ≠ some gb := fun e => (k5 gb e).elim hne (fun h => by have := zb2.lt; omega)
                    rw [List.append_assoc, ← HAK.out, ← HT.out] at O5
                    clear OA zb2 hne g5 k5 d0 d1 d2 zx HT HAK y0
                    go_wp2_with (first | (at_make; refine Stop.un ?_) | (at_builtin; refine Stop.un ?_) | (with_reducible refine Stop.conv 22 9 ?_) | (with_reducible refine Stop.conv 9 22 ?_))
                    go_roundw
                    case rel => exact ⟨i + 1, _, a5, c5, by omega, by go_num, rfl, rfl, O5, zb5, hne5, HG2, HER3⟩
                    case measure => simp [intOf]; omega
              ·
                have q1 : (op == 1) = false := by simpa using o1
                have q2 : (op == 2) = false := by simp; omega
                have q3 : (op == 3) = false := by simp; omega
                have q4 : (op == 4) = false := by simp; omega
                have q5 : (op == 5) = false := by simp; omega
                have HE1 := Lib.hid (HBAD.out (by unfold agB; rw [if_neg o1]; by_cases h2 : 2 ≤ op <;> simp [h2]; intro h; omega))
                have bw := Own.below OA
                clear o1 o2
                have d0 := zx.cell 0 rfl
                have d1 := zx.cell 1 rfl
                clear HBAD HGOOD HER2 HKC2 OA zb2 HT zx hne
                go_wp2_with (first | (at_make; refine Stop.un ?_) | (at_builtin; refine Stop.un ?_) | (with_reducible refine Stop.conv 22 9 ?_) | (with_reducible refine Stop.conv 9 22 ?_))
                exact bodyPost_ret (v := .tuple #[.slice none 0 0, .int .i64 1]) (by simp [results, Try.results19, go_sem]) rfl (HR1.out _ HE1.out bw)
          · obtain rfl : i = gn := by omega
            have htk : ags.take i = ags := List.take_of_length_le (by have := HN.out.2.2; omega)
            rw [htk] at O
            have HE4 : Hid (E = er) := Lib.hid (by
              have h1 := HB.out
              have h2 := HER.out
              rw [htk] at h1 h2
              rw [HE3.out, h1, h2]; rfl)
            have HER5 : Hid (er = 0 ∨ er = 7) := Lib.hid (by rw [HER.out]; split <;> simp)
            have HRA : Hid (E = 0 → OwnB w wr (.slice ab (j + i) cb) (j + i) (kR E (kindsL kinds bs ags))) := Lib.hid (fun h => by rw [h]; exact O)
            have bw := Own.below O
            clear HB htk HE3 HER O zb hne hlt
            rcases HER5.out with rfl | rfl
            · go_wp2_with (first | (at_make; refine Stop.un ?_) | (at_builtin; refine Stop.un ?_) | (with_reducible refine Stop.conv 22 9 ?_) | (with_reducible refine Stop.conv 9 22 ?_))
              exact bodyPost_ret (v := .tuple #[.slice ab (j + i) cb, .int .i64 0]) (by simp [results, Try.results19, go_sem]) rfl ⟨ab, j + i, cb, by rw [HE4.out], HRA.out HE4.out⟩
            · go_wp2_with (first | (at_make; refine Stop.un ?_) | (at_builtin; refine Stop.un ?_) | (with_reducible refine Stop.conv 22 9 ?_) | (with_reducible refine Stop.conv 9 22 ?_))
              exact bodyPost_ret (v := .tuple #[.slice none 0 0, .int .i64 7]) (by simp [results, Try.results19, go_sem]) rfl ⟨none, 0, 0, by rw [HE4.out], by rw [HE4.out]; exact Own.nil _ _ bw⟩
end Go.Proofs.Ytbiniecjenencaa
