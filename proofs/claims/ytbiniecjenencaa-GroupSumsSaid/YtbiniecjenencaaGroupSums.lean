/- GroupSums. -/
import Derived.Test.YtbiniecjenencaaGrpC
import Derived.Test.YtbiniecjenencaaGSums
import Derived.Test.YtbiniecjenencaaInts
set_option linter.unusedVariables false
set_option linter.unusedSimpArgs false
set_option maxRecDepth 10000
namespace Go.Proofs.Ytbiniecjenencaa
open Go.RowKit
section
variable {w0 w x : World} {v v' : Value} {N n' : Nat} {rs news : List Rw}
theorem OutM.pushs (M : OutM w0 w v N rs) (hr : ∀ r ∈ news, RowOk w r ∧ Fz w r ∧ ∀ a, r.a = some a → w0.heap.size ≤ a.block ∧ a.block < w.heap.size ∧ v.ownBlock ≠ some a.block)
    (O : OwnRs w0 x v' n' (rs ++ news)) (g : w.grownBy x v.ownBlock) (k : ∀ k, v'.ownBlock = some k → v.ownBlock = some k ∨ w.heap.size ≤ k) : OutM w0 x v' n' (rs ++ news) := by
  refine ⟨O, fun y hy => ?_⟩
  have hy2 : RowOk w y ∧ Fz w y ∧ ∀ a, y.a = some a → w0.heap.size ≤ a.block ∧ a.block < w.heap.size ∧ v.ownBlock ≠ some a.block := by
    rcases List.mem_append.1 hy with h1 | h1
    · exact M.F y h1
    · exact hr y h1
  refine ⟨⟨hy2.1.cs.grown g (fun z hz => ⟨(hy2.2.2 z hz).2.1, (hy2.2.2 z hz).2.2⟩), hy2.1.len, hy2.1.le, hy2.1.max, hy2.1.kind⟩, hy2.2.1.grown g (fun a ha => (hy2.2.2 a ha).2.2), fun a ha => ?_⟩
  obtain ⟨h1, h2, h3⟩ := hy2.2.2 a ha
  refine ⟨h1, Nat.lt_of_lt_of_le h2 g.size, fun e => ?_⟩
  rcases k _ e with h4 | h4
  · exact h3 h4
  · omega
end
/-- A row of a number, in a block of its own. -/
def nRw (g : Nat) (z : Int) : Rw := ⟨some ⟨g, 0, none⟩, 1, 1, [numG z]⟩
theorem nRw_ok {w0 w : World} {g : Nat} {z : Int} {v : Value} (h : At w g #[.int .u8 2, .int .i64 z, .string ⟨#[]⟩] 38) (h0 : w0.heap.size ≤ g) (hv : v.ownBlock ≠ some g) :
    RowOk w (nRw g z) ∧ Fz w (nRw g z) ∧ ∀ a, (nRw g z).a = some a → w0.heap.size ≤ a.block ∧ a.block < w.heap.size ∧ v.ownBlock ≠ some a.block := by
  refine ⟨rowAt (l := [numG z]) h (Nat.le_of_ble_eq_true rfl) (by simp [numG]), fun a ha => ?_, fun a ha => ?_⟩
  · obtain rfl := Option.some.inj ha
    exact ⟨g, _, _, rfl, h, by show 1 * 3 ≤ 3; decide⟩
  · obtain rfl := Option.some.inj ha
    exact ⟨h0, h.lt, hv⟩
def rowsZ (zs : List Int) : List (List V) := zs.map (fun z => [numG z])
/-- Numbers, their opposites, and one. -/
def backs (zs : List Int) : List Int := zs.flatMap (fun z => [-1 - z, 1])
theorem backs_sum : ∀ zs : List Int, zs.sum + (backs zs).sum = 0
  | [] => rfl
  | z :: zs => by
    have := backs_sum zs
    unfold backs at this ⊢
    simp only [List.flatMap_cons, List.sum_cons, List.sum_append, List.sum_nil]
    omega
theorem backs_len : ∀ zs : List Int, (backs zs).length = 2 * zs.length
  | [] => rfl
  | z :: zs => by
    have := backs_len zs
    unfold backs at this ⊢
    simp only [List.flatMap_cons, List.length_append, List.length_cons, List.length_nil]
    omega
theorem backs_in {zs : List Int} (h : ∀ z ∈ zs, inI z) : ∀ z ∈ backs zs, inI z := fun z hz => by
  obtain ⟨y, hy, hz2⟩ := List.mem_flatMap.1 hz
  have := h y hy
  unfold inI at this ⊢
  simp only [List.mem_cons, List.not_mem_nil, or_false] at hz2
  rcases hz2 with rfl | rfl <;> omega
set_option maxRecDepth 100000 in
set_option maxHeartbeats 16000000 in
theorem groupSums_any (a1 : Option Addr) (m c1 : Nat) (l : List Int) (n : Int) (w : World)
    (h1 : Cs w a1 (icells l)) (e1 : l.length = m) (m1 : m ≤ c1) (cm1 : c1 ≤ maxLen) (hz : ∀ z ∈ l, inI z) (n0 : -9223372036854775808 ≤ n) (n1 : n ≤ 9223372036854775807) :
    Calls Try.prog 4 #[.slice a1 m c1, .int .i64 n] w (fun e w' => e = .returned (.bool true) ∧ Below w.heap.size w w') := by
  unfold maxLen at cm1
  have HN := Lib.hid (And.intro e1 (And.intro hz h1))
  clear e1 hz h1
  go_enter Try.func4, Try.ntmps4
  go_wp2_with (first | (at_make; refine Stop.un ?_) | (at_builtin; refine Stop.un ?_) | (with_reducible refine Stop.conv 22 9 ?_) | (with_reducible refine Stop.conv 9 22 ?_))
  refine (shown_any22 _).mono ?_
  rintro e wb ⟨rfl, b0⟩
  go_upto_block 0 with fail
  go_cut [6, 7, 8] from 17 to 30 (fun rv _ _ wx => ∃ (k : Nat) (ar : Option Addr) (cr : Nat) (rs : List Rw), k ≤ 30 ∧ rv = .slice ar k cr ∧ OutM w wx (.slice ar k cr) k rs ∧ Hid (rs.map (·.l) = rowsZ (l.take k) ∧ k ≤ l.length))
  case first =>
    go_wp2_with fail
    go_loopw [17, 6] (fun iv rv wr => ∃ (j : Nat) (ar : Option Addr) (cr : Nat) (rs : List Rw), j ≤ m ∧ j ≤ 30 ∧ iv = .int .i64 (j : Int) ∧ rv = .slice ar j cr ∧ OutM w wr (.slice ar j cr) j rs ∧ Hid (rs.map (·.l) = rowsZ (l.take j))) (fun iv _ _ => m - (intOf iv).toNat)
    case atStart => exact ⟨0, none, 0, [], Nat.zero_le _, by omega, rfl, rfl, OutM.nil b0, Lib.hid rfl⟩
    case round =>
      obtain ⟨j, ar, cr, rs, hj, hj30, rfl, rfl, M, HX⟩ := hrel
      by_cases hlt : j < m
      · have hjl : j < l.length := by have := HN.out.1; omega
        have h2 := HN.out.2.2.mono (Own.below M.O) (Nat.le_refl _)
        obtain ⟨b, o, rfl⟩ := h2.addr (by rw [icells_length]; omega)
        have x0 : wr.cell? ⟨b, o + j, none⟩ = some (.int .i64 l[j]) := h2.at (by simp [icells, hjl])
        have HT : Hid (rowsZ (l.take (j + 1)) = rowsZ (l.take j) ++ [[numG l[j]]]) := Lib.hid (by unfold rowsZ; rw [List.take_succ_eq_append_getElem hjl, List.map_append]; rfl)
        have HKL : Hid (rs.map (·.l) = rowsZ (l.take j) ∧ j ≤ l.length) := Lib.hid ⟨HX.out, by omega⟩
        generalize l[j] = z at x0 HT
        clear hjl h2
        by_cases h30 : 30 ≤ j
        · have hd : decide ((30 : Int) ≤ (j : Int)) = true := decide_eq_true (by omega)
          go_wp2_with (first | (at_make; refine Stop.un ?_) | (at_builtin; refine Stop.un ?_) | (with_reducible refine Stop.conv 22 9 ?_) | (with_reducible refine Stop.conv 9 22 ?_))
          go_meet
          exact ⟨j, ar, cr, rs, hj30, rfl, M, HKL⟩
        · have hd : decide ((30 : Int) ≤ (j : Int)) = false := decide_eq_false (by omega)
          clear HKL
          go_wp2_with (first | (at_make; refine Stop.un ?_) | (at_builtin; refine Stop.un ?_) | (with_reducible refine Stop.conv 22 9 ?_) | (with_reducible refine Stop.conv 9 22 ?_))
          refine (num_any22 z _).mono ?_
          rintro e w2 ⟨rfl, b2⟩
          have zr := At.new w2 #[.int .u8 2, .int .i64 z, .string ⟨#[]⟩] 38
          have M1 := M.below b2
          have hgz := Own.le M1.O
          have HGV : Hid ((Value.slice ar j cr).ownBlock ≠ some w2.heap.size) := Lib.hid (fun e => by have := Own.lt M1.O _ e; omega)
          have M2 := M1.below ((Below.refl _ _).alloc (Nat.le_refl _) (.cells #[.int .u8 2, .int .i64 z, .string ⟨#[]⟩] 38))
          clear M M1 b2 x0
          go_wp2_with (first | (at_make; refine Stop.un ?_) | (at_builtin; refine Stop.un ?_) | (with_reducible refine Stop.conv 22 9 ?_) | (with_reducible refine Stop.conv 9 22 ?_))
          have hsz : (w2.alloc (.cells #[.int .u8 2, .int .i64 z, .string ⟨#[]⟩] 38)).heap.size = w2.heap.size + 1 := World.size_alloc _ _
          generalize w2.alloc (.cells #[.int .u8 2, .int .i64 z, .string ⟨#[]⟩] 38) = wB at zr M2 hsz ⊢
          generalize w2.heap.size = gz at zr hgz HGV hsz ⊢
          obtain ⟨ro, fz, rb⟩ := nRw_ok zr hgz HGV.out
          refine Stop.mk (app_rw1 (r := nRw gz z) w _ _ rfl rfl M2.O rfl (by rw [hsz]; rfl) (by omega) ?_)
          intro a5 c5 w5 O5 g5 k5
          have M5 := M2.push ro fz rb O5 g5 k5
          have HX2 : Hid ((rs ++ [nRw gz z]).map (·.l) = rowsZ (l.take (j + 1))) := Lib.hid (by rw [List.map_append, HX.out, HT.out]; rfl)
          clear M2 ro fz rb O5 g5 k5 zr HX HT hsz hgz HGV
          go_wp2_with (first | (at_make; refine Stop.un ?_) | (at_builtin; refine Stop.un ?_) | (with_reducible refine Stop.conv 22 9 ?_) | (with_reducible refine Stop.conv 9 22 ?_))
          go_roundw
          case rel => exact ⟨j + 1, a5, c5, _, by omega, by omega, by go_num, rfl, M5, HX2⟩
          case measure => simp [intOf]; omega
      · have HKL : Hid (rs.map (·.l) = rowsZ (l.take j) ∧ j ≤ l.length) := Lib.hid ⟨HX.out, by have := HN.out.1; omega⟩
        go_wp2_with (first | (at_make; refine Stop.un ?_) | (at_builtin; refine Stop.un ?_) | (with_reducible refine Stop.conv 22 9 ?_) | (with_reducible refine Stop.conv 9 22 ?_))
        go_meet
        exact ⟨j, ar, cr, rs, hj30, rfl, M, HKL⟩
  case rest =>
    clear b0
    obtain ⟨k, ar, cr, rs, hk30, rfl, M, HX⟩ := hcut
    have HZ : Hid (∀ z ∈ l.take k, inI z) := Lib.hid (fun z hz => HN.out.2.1 z (List.mem_of_mem_take hz))
    have HZL : Hid ((l.take k).length = k) := Lib.hid (by rw [List.length_take]; have := HX.out.2; omega)
    have HX0 : Hid (rs.map (·.l) = rowsZ (l.take k ++ backs ((l.take k).take 0))) := Lib.hid (by rw [HX.out.1]; simp [backs])
    clear HX HN
    generalize l.take k = zs at HZ HZL HX0
    go_wp2_with (first | (at_make; refine Stop.un ?_) | (at_builtin; refine Stop.un ?_) | (with_reducible refine Stop.conv 22 9 ?_) | (with_reducible refine Stop.conv 9 22 ?_))
    go_loopw [33, 6] (fun iv rv wr => ∃ (i : Nat) (ar : Option Addr) (cr : Nat) (rs : List Rw), i ≤ k ∧ iv = .int .i64 (i : Int) ∧ rv = .slice ar (k + 2 * i) cr ∧ OutM w wr (.slice ar (k + 2 * i) cr) (k + 2 * i) rs ∧ Hid (rs.map (·.l) = rowsZ (zs ++ backs (zs.take i)))) (fun iv _ _ => k - (intOf iv).toNat)
    case atStart => exact ⟨0, ar, cr, rs, Nat.zero_le _, rfl, rfl, M, HX0⟩
    case round =>
      clear M HX0
      obtain ⟨i, ar, cr, rs, hi, rfl, rfl, M, HX⟩ := hrel
      by_cases hlt : i < k
      · have hil : i < zs.length := by have := HZL.out; omega
        have hrl : rs.length = k + 2 * i := OwnRs.length M.O
        have hirs : i < rs.length := by omega
        have hri : rs[i].l = [numG zs[i]] := by
          have h2 := congrArg (fun q : List (List V) => q[i]?) HX.out
          simp only [List.getElem?_map, rowsZ, List.getElem?_append_left hil, List.getElem?_eq_getElem hil, List.getElem?_eq_getElem hirs, Option.map_some, Option.some.injEq] at h2
          exact h2
        have cs := Own.cs M.O
        obtain ⟨b, o, rfl⟩ := cs.addr (by rw [rwcells_length]; omega)
        have x0 : wr.cell? ⟨b, o + i, none⟩ = some (.slice rs[i].a rs[i].n rs[i].cap) := cs.at (by simp [rwcells, hirs, Rw.sl])
        have ok := (M.F rs[i] (List.getElem_mem _)).1
        have hzi := HZ.out zs[i] (List.getElem_mem _)
        have HT : Hid (backs (zs.take (i + 1)) = backs (zs.take i) ++ [-1 - zs[i], 1]) := Lib.hid (by unfold backs; rw [List.take_succ_eq_append_getElem hil, List.flatMap_append]; simp)
        generalize zs[i] = z at hri hzi HT
        generalize rs[i] = r at x0 ok hri
        have hrn : r.n = 1 := by rw [← ok.len, hri]; rfl
        have hrc := ok.le
        have hrm : r.cap ≤ 9223372036854775807 := ok.max
        have ocs := ok.cs
        rw [hri] at ocs
        obtain ⟨vb, vo, hra⟩ := ocs.addr (by rw [vcells_length]; simp)
        rw [hra, hrn] at x0
        rw [hra] at ocs
        have q1 := (ocs.vat (i := 0) (by simp)).2.1
        simp only [Nat.zero_mul, Nat.add_zero, List.getElem_cons_zero, numG] at q1
        have hz0 := hzi.1
        have hz1 := hzi.2
        have xl := lt_cell x0
        have ql := lt_cell q1
        have hrc1 : 1 ≤ r.cap := by omega
        have hlc := owns_le M.O.1
        have hmc : cr ≤ 9223372036854775807 := owns_max M.O.1
        clear hil hirs cs ok hri hrn ocs hra hzi hrl hrc
        go_wp2_with (first | (at_make; refine Stop.un ?_) | (at_builtin; refine Stop.un ?_) | (with_reducible refine Stop.conv 22 9 ?_) | (with_reducible refine Stop.conv 9 22 ?_))
        refine (num_any22 _ _).mono ?_
        rintro e w2 ⟨rfl, b2⟩
        have zA := At.new w2 #[.int .u8 2, .int .i64 (-1 - z), .string ⟨#[]⟩] 38
        have M1 := M.below b2
        have hgA := Own.le M1.O
        have HGA : Hid ((Value.slice (some ⟨b, o, none⟩) (k + 2 * i) cr).ownBlock ≠ some w2.heap.size) := Lib.hid (fun e => by have := Own.lt M1.O _ e; omega)
        have M2 := M1.below ((Below.refl _ _).alloc (Nat.le_refl _) (.cells #[.int .u8 2, .int .i64 (-1 - z), .string ⟨#[]⟩] 38))
        clear M M1 b2 x0 q1 xl ql
        go_wp2_with (first | (at_make; refine Stop.un ?_) | (at_builtin; refine Stop.un ?_) | (with_reducible refine Stop.conv 22 9 ?_) | (with_reducible refine Stop.conv 9 22 ?_))
        generalize w2.alloc (.cells #[.int .u8 2, .int .i64 (-1 - z), .string ⟨#[]⟩] 38) = wB at zA M2 ⊢
        generalize w2.heap.size = gA at zA hgA HGA ⊢
        refine (num_any22 _ _).mono ?_
        rintro e w3 ⟨rfl, b3⟩
        have zB := At.new w3 #[.int .u8 2, .int .i64 1, .string ⟨#[]⟩] 38
        have M3 := M2.below b3
        have hgB := Own.le M3.O
        have HGB : Hid ((Value.slice (some ⟨b, o, none⟩) (k + 2 * i) cr).ownBlock ≠ some w3.heap.size) := Lib.hid (fun e => by have := Own.lt M3.O _ e; omega)
        have bC := (Below.refl w3.heap.size w3).alloc (Nat.le_refl _) (.cells #[.int .u8 2, .int .i64 1, .string ⟨#[]⟩] 38)
        have M4 := M3.below bC
        replace zA := (zA.mono b3).mono bC
        have hsz : (w3.alloc (.cells #[.int .u8 2, .int .i64 1, .string ⟨#[]⟩] 38)).heap.size = w3.heap.size + 1 := World.size_alloc _ _
        clear M2 M3 b3 bC
        go_wp2_with (first | (at_make; refine Stop.un ?_) | (at_builtin; refine Stop.un ?_) | (with_reducible refine Stop.conv 22 9 ?_) | (with_reducible refine Stop.conv 9 22 ?_))
        generalize w3.alloc (.cells #[.int .u8 2, .int .i64 1, .string ⟨#[]⟩] 38) = wC at zA zB M4 hsz ⊢
        generalize w3.heap.size = gB at zB hgB HGB hsz ⊢
        have zH := At.new wC #[.slice (some ⟨gA, 0, none⟩) 1 1, .slice (some ⟨gB, 0, none⟩) 1 1] 36
        have bD := (Below.refl wC.heap.size wC).alloc (Nat.le_refl _) (.cells #[.slice (some ⟨gA, 0, none⟩) 1 1, .slice (some ⟨gB, 0, none⟩) 1 1] 36)
        rw [hsz] at zH
        replace zA := zA.mono bD
        replace zB := zB.mono bD
        replace M4 := M4.below bD
        clear bD hsz
        generalize wC.alloc (.cells #[.slice (some ⟨gA, 0, none⟩) 1 1, .slice (some ⟨gB, 0, none⟩) 1 1] 36) = wD at zA zB zH M4 ⊢
        have okA := nRw_ok zA hgA HGA.out
        have okB := nRw_ok zB hgB HGB.out
        refine Stop.mk (app_rws w _ _ rfl rfl M4.O rfl rfl (news := [nRw gA (-1 - z), nRw gB 1]) rfl (At.cs15 zH) (by omega) ?_)
        intro a5 c5 w5 O5 g5 k5
        have M5 := M4.pushs (fun r hr => by
          simp only [List.mem_cons, List.not_mem_nil, or_false] at hr
          rcases hr with rfl | rfl
          · exact okA
          · exact okB) O5 g5 k5
        have HX2 : Hid ((rs ++ [nRw gA (-1 - z), nRw gB 1]).map (·.l) = rowsZ (zs ++ backs (zs.take (i + 1)))) := Lib.hid (by rw [List.map_append, HX.out, HT.out, ← List.append_assoc]; unfold rowsZ; simp only [List.map_append]; rfl)
        rw [show k + 2 * i + 2 = k + 2 * (i + 1) by omega] at M5
        clear M4 okA okB O5 g5 k5 zA zB zH HX HT hgA HGA hgB HGB
        go_wp2_with (first | (at_make; refine Stop.un ?_) | (at_builtin; refine Stop.un ?_) | (with_reducible refine Stop.conv 22 9 ?_) | (with_reducible refine Stop.conv 9 22 ?_))
        go_roundw
        case rel => exact ⟨i + 1, a5, c5, _, by omega, by go_num, by first | rfl | (congr 1; omega), M5, HX2⟩
        case measure => simp [intOf]; omega
      · obtain rfl : i = k := by omega
        have HX2 : Hid (rs.map (·.l) = rowsZ (zs ++ backs zs)) := Lib.hid (by rw [HX.out, List.take_of_length_le (by rw [HZL.out]; exact Nat.le_refl _)])
        clear HX
        go_wp2_with (first | (at_make; refine Stop.un ?_) | (at_builtin; refine Stop.un ?_) | (with_reducible refine Stop.conv 22 9 ?_) | (with_reducible refine Stop.conv 9 22 ?_))
        refine (num_any22 _ _).mono ?_
        rintro e w2 ⟨rfl, b2⟩
        have zr := At.new w2 #[.int .u8 2, .int .i64 n, .string ⟨#[]⟩] 38
        have M1 := M.below b2
        have hgz := Own.le M1.O
        have HGV : Hid ((Value.slice ar (i + 2 * i) cr).ownBlock ≠ some w2.heap.size) := Lib.hid (fun e => by have := Own.lt M1.O _ e; omega)
        have M2 := M1.below ((Below.refl _ _).alloc (Nat.le_refl _) (.cells #[.int .u8 2, .int .i64 n, .string ⟨#[]⟩] 38))
        have hsz : (w2.alloc (.cells #[.int .u8 2, .int .i64 n, .string ⟨#[]⟩] 38)).heap.size = w2.heap.size + 1 := World.size_alloc _ _
        clear M M1 b2
        go_wp2_with (first | (at_make; refine Stop.un ?_) | (at_builtin; refine Stop.un ?_) | (with_reducible refine Stop.conv 22 9 ?_) | (with_reducible refine Stop.conv 9 22 ?_))
        generalize w2.alloc (.cells #[.int .u8 2, .int .i64 n, .string ⟨#[]⟩] 38) = wB at zr M2 hsz ⊢
        generalize w2.heap.size = gz at zr hgz HGV hsz ⊢
        obtain ⟨ro, fz, rb⟩ := nRw_ok zr hgz HGV.out
        refine Stop.mk (app_rw1 (r := nRw gz n) w _ _ rfl rfl M2.O rfl (by rw [hsz]; rfl) (by omega) ?_)
        intro a5 c5 w5 O5 g5 k5
        have M5 := M2.push ro fz rb O5 g5 k5
        have HX3 : Hid ((rs ++ [nRw gz n]).map (·.l) = rowsZ (zs ++ backs zs ++ [n])) := Lib.hid (by rw [List.map_append, HX2.out]; unfold rowsZ; simp only [List.map_append]; rfl)
        have HZS : Hid ((zs ++ backs zs ++ [n]).sum = n ∧ (zs ++ backs zs ++ [n]).length = i + 2 * i + 1 ∧ ∀ z ∈ zs ++ backs zs ++ [n], inI z) := Lib.hid ⟨by
          have := backs_sum zs
          simp only [List.sum_append, List.sum_cons, List.sum_nil]
          omega, by
          have := backs_len zs
          have := HZL.out
          simp only [List.length_append, List.length_singleton]
          omega, fun z hz => by
          simp only [List.mem_append, List.mem_singleton] at hz
          rcases hz with (h | h) | h
          · exact HZ.out z h
          · exact backs_in HZ.out z h
          · rw [h]; exact ⟨n0, n1⟩⟩
        clear M2 ro fz rb O5 g5 k5 zr HX2 HZ HZL hsz hgz HGV
        have HNE : Hid (zs ++ backs zs ++ [n] ≠ []) := Lib.hid (by simp)
        generalize rs ++ [nRw gz n] = rows at M5 HX3
        generalize zs ++ backs zs ++ [n] = ys at HX3 HZS HNE
        have hN : i + 2 * i + 1 ≤ 91 := by omega
        generalize i + 2 * i + 1 = N at M5 HZS hN ⊢
        have hle5 := owns_le M5.O.1
        have hmx5 : c5 ≤ 9223372036854775807 := owns_max M5.O.1
        go_wp2_with (first | (at_make; refine Stop.un ?_) | (at_builtin; refine Stop.un ?_) | (with_reducible refine Stop.conv 22 9 ?_) | (with_reducible refine Stop.conv 9 22 ?_))
        have zk : At ((w5.alloc (.cells #[.int .u8 2] 5)).alloc (.cells #[.int .u8 3, .int .i64 0] 34)) (w5.heap.size) #[.int .u8 2] 5 := by simpa only [World.size_alloc, Nat.add_assoc, Nat.reduceAdd] using (At.new w5 #[.int .u8 2] 5).alloc (.cells #[.int .u8 3, .int .i64 0] 34)
        have zg : At ((w5.alloc (.cells #[.int .u8 2] 5)).alloc (.cells #[.int .u8 3, .int .i64 0] 34)) (w5.heap.size + 1) #[.int .u8 3, .int .i64 0] 34 := by simpa only [World.size_alloc, Nat.add_assoc, Nat.reduceAdd] using At.new (w5.alloc (.cells #[.int .u8 2] 5)) #[.int .u8 3, .int .i64 0] 34
        have BB : Below w5.heap.size w5 ((w5.alloc (.cells #[.int .u8 2] 5)).alloc (.cells #[.int .u8 3, .int .i64 0] 34)) := Below.alloc (Below.alloc (Below.refl w5.heap.size w5) (by (try simp only [World.size_alloc]) <;> omega) (.cells #[.int .u8 2] 5)) (by (try simp only [World.size_alloc]) <;> omega) (.cells #[.int .u8 3, .int .i64 0] 34)
        replace M5 := OutM.below M5 BB
        clear BB
        generalize ((w5.alloc (.cells #[.int .u8 2] 5)).alloc (.cells #[.int .u8 3, .int .i64 0] 34)) = wK at zk zg M5 ⊢
        generalize w5.heap.size + 1 = gG at zg ⊢
        generalize w5.heap.size = gK at zk zg ⊢
        have hrn : ∀ r ∈ rows, r.n ≤ 1000 := fun r hr => by
          have h2 : r.l ∈ rowsZ ys := HX3.out ▸ List.mem_map_of_mem hr
          obtain ⟨y, _, e⟩ := List.mem_map.1 h2
          have h3 := (M5.F r hr).1.len
          rw [← e] at h3
          simp only [List.length_singleton] at h3
          omega
        have HRN := Lib.hid hrn
        have hl1 := HZS.out.2.1
        have hne : ys ≠ [] := HNE.out
        have hgr := grows_any (some ⟨gK, 0, none⟩) 1 1 [2] a5 N c5 rows none 0 0 [] (some ⟨gG, 0, none⟩) 1 1 [⟨3, 0⟩] wK (At.cs15 (xs := bcells [2]) zk) rfl (by decide) (by decide) ⟨Own.cs M5.O, fun r hr => (M5.F r hr).1⟩ (OwnRs.length M5.O) (owns_le M5.O.1) (owns_max M5.O.1) (by omega) hrn (Cs.nil _ _) rfl (by decide) (by decide) (by decide) (At.cs15 (xs := agcells [⟨3, 0⟩]) zg) rfl (by decide) (by decide) (by decide)
        rw [HX3.out, show rowsZ ys = (ys).map (fun z => [numG z]) from rfl, grp_sum ys hne (by omega) HZS.out.2.2, if_pos (by rw [HZS.out.1]; exact ⟨n0, n1⟩), HZS.out.1] at hgr
        have HGR := Lib.hid hgr
        clear hgr hrn hl1 hne zk zg
        refine HGR.out.mono ?_
        rintro e wG ⟨aA, nA, cA, rA, rfl, MA, hA⟩
        clear HGR
        have bt := Own.below MA.O
        replace M5 := M5.below bt
        clear bt
        have HA := Lib.hid hA
        have hleA := owns_le MA.O.1
        have hmxA : cA ≤ 9223372036854775807 := owns_max MA.O.1
        clear hA
        go_wp2_with (first | (at_make; refine Stop.un ?_) | (at_builtin; refine Stop.un ?_) | (with_reducible refine Stop.conv 22 9 ?_) | (with_reducible refine Stop.conv 9 22 ?_))
        refine (num_any22 _ _).mono ?_
        rintro e w6 ⟨rfl, bt⟩
        replace M5 := OutM.below M5 bt
        replace MA := OutM.below MA bt
        clear bt
        go_wp2_with (first | (at_make; refine Stop.un ?_) | (at_builtin; refine Stop.un ?_) | (with_reducible refine Stop.conv 22 9 ?_) | (with_reducible refine Stop.conv 9 22 ?_))
        have zr : At ((w6.alloc (.cells #[.int .u8 2, .int .i64 n, .string ⟨#[]⟩] 38)).alloc (.cells #[.slice (some ⟨w6.heap.size, 0, none⟩) 1 1] 36)) (w6.heap.size) #[.int .u8 2, .int .i64 n, .string ⟨#[]⟩] 38 := by simpa only [World.size_alloc, Nat.add_assoc, Nat.reduceAdd] using (At.new w6 #[.int .u8 2, .int .i64 n, .string ⟨#[]⟩] 38).alloc (.cells #[.slice (some ⟨w6.heap.size, 0, none⟩) 1 1] 36)
        have zh : At ((w6.alloc (.cells #[.int .u8 2, .int .i64 n, .string ⟨#[]⟩] 38)).alloc (.cells #[.slice (some ⟨w6.heap.size, 0, none⟩) 1 1] 36)) (w6.heap.size + 1) #[.slice (some ⟨w6.heap.size, 0, none⟩) 1 1] 36 := by simpa only [World.size_alloc, Nat.add_assoc, Nat.reduceAdd] using At.new (w6.alloc (.cells #[.int .u8 2, .int .i64 n, .string ⟨#[]⟩] 38)) #[.slice (some ⟨w6.heap.size, 0, none⟩) 1 1] 36
        have BB : Below w6.heap.size w6 ((w6.alloc (.cells #[.int .u8 2, .int .i64 n, .string ⟨#[]⟩] 38)).alloc (.cells #[.slice (some ⟨w6.heap.size, 0, none⟩) 1 1] 36)) := Below.alloc (Below.alloc (Below.refl w6.heap.size w6) (by (try simp only [World.size_alloc]) <;> omega) (.cells #[.int .u8 2, .int .i64 n, .string ⟨#[]⟩] 38)) (by (try simp only [World.size_alloc]) <;> omega) (.cells #[.slice (some ⟨w6.heap.size, 0, none⟩) 1 1] 36)
        replace M5 := OutM.below M5 BB
        replace MA := OutM.below MA BB
        clear BB
        generalize ((w6.alloc (.cells #[.int .u8 2, .int .i64 n, .string ⟨#[]⟩] 38)).alloc (.cells #[.slice (some ⟨w6.heap.size, 0, none⟩) 1 1] 36)) = w7 at zr zh M5 MA ⊢
        generalize w6.heap.size + 1 = gH at zh ⊢
        generalize w6.heap.size = gR at zr zh ⊢
        have tX := tabAt (rs := [nRw gR n]) zh (fun r hr => by rw [List.mem_singleton.1 hr]; exact rowAt (l := [numG n]) zr (Nat.le_of_ble_eq_true rfl) (by simp [numG]))
        have hsm := samerows_any aA nA cA rA (some ⟨gH, 0, none⟩) 1 1 _ w7 ⟨Own.cs MA.O, fun r hr => (MA.F r hr).1⟩ tX (OwnRs.length MA.O) rfl hleA (by decide) hmxA (by decide)
        rw [decide_eq_true (by rw [HA.out]; rfl)] at hsm
        have HSM := Lib.hid hsm
        clear hsm tX zr zh MA hleA hmxA HA
        refine HSM.out.mono ?_
        rintro e w8 ⟨rfl, bt⟩
        replace M5 := M5.below bt
        clear bt HSM
        go_wp2_with (first | (at_make; refine Stop.un ?_) | (at_builtin; refine Stop.un ?_) | (with_reducible refine Stop.conv 22 9 ?_) | (with_reducible refine Stop.conv 9 22 ?_))
        have hL8 := Own.lt M5.O
        have HKK : Hid ((Value.slice a5 N c5).ownBlock ≠ some w8.heap.size) := Lib.hid (fun e => by have := hL8 _ e; omega)
        clear hL8
        have zk : At (w8.alloc (.cells #[.int .u8 2] 5)) (w8.heap.size) #[.int .u8 2] 5 := by simpa only [World.size_alloc, Nat.add_assoc, Nat.reduceAdd] using At.new w8 #[.int .u8 2] 5
        have BB : Below w8.heap.size w8 (w8.alloc (.cells #[.int .u8 2] 5)) := Below.alloc (Below.refl w8.heap.size w8) (by (try simp only [World.size_alloc]) <;> omega) (.cells #[.int .u8 2] 5)
        replace M5 := OutM.below M5 BB
        clear BB
        skip
        generalize (w8.alloc (.cells #[.int .u8 2] 5)) = w9 at zk M5 ⊢
        generalize w8.heap.size = gK at zk HKK ⊢
        refine (num_any22 _ _).mono ?_
        rintro e w10 ⟨rfl, bt⟩
        replace M5 := OutM.below M5 bt
        replace zk := At.mono zk bt
        clear bt
        have hgA := Own.le M5.O
        have hLA := Own.lt M5.O
        go_wp2_with (first | (at_make; refine Stop.un ?_) | (at_builtin; refine Stop.un ?_) | (with_reducible refine Stop.conv 22 9 ?_) | (with_reducible refine Stop.conv 9 22 ?_))
        have zA : At (w10.alloc (.cells #[.int .u8 2, .int .i64 9223372036854775807, .string ⟨#[]⟩] 38)) (w10.heap.size) #[.int .u8 2, .int .i64 9223372036854775807, .string ⟨#[]⟩] 38 := by simpa only [World.size_alloc, Nat.add_assoc, Nat.reduceAdd] using At.new w10 #[.int .u8 2, .int .i64 9223372036854775807, .string ⟨#[]⟩] 38
        have BB : Below w10.heap.size w10 (w10.alloc (.cells #[.int .u8 2, .int .i64 9223372036854775807, .string ⟨#[]⟩] 38)) := Below.alloc (Below.refl w10.heap.size w10) (by (try simp only [World.size_alloc]) <;> omega) (.cells #[.int .u8 2, .int .i64 9223372036854775807, .string ⟨#[]⟩] 38)
        replace M5 := OutM.below M5 BB
        replace zk := At.mono zk BB
        clear BB
        have HGA : Hid ((Value.slice a5 N c5).ownBlock ≠ some w10.heap.size) := Lib.hid (fun e => by have := hLA _ e; omega)
        clear hLA
        generalize (w10.alloc (.cells #[.int .u8 2, .int .i64 9223372036854775807, .string ⟨#[]⟩] 38)) = w11 at zA M5 zk ⊢
        generalize w10.heap.size = gA at zA hgA HGA ⊢
        refine (num_any22 _ _).mono ?_
        rintro e w12 ⟨rfl, bt⟩
        replace M5 := OutM.below M5 bt
        replace zk := At.mono zk bt
        replace zA := At.mono zA bt
        clear bt
        have hgB := Own.le M5.O
        have hLB := Own.lt M5.O
        go_wp2_with (first | (at_make; refine Stop.un ?_) | (at_builtin; refine Stop.un ?_) | (with_reducible refine Stop.conv 22 9 ?_) | (with_reducible refine Stop.conv 9 22 ?_))
        have zB : At ((w12.alloc (.cells #[.int .u8 2, .int .i64 1, .string ⟨#[]⟩] 38)).alloc (.cells #[.slice (some ⟨gA, 0, none⟩) 1 1, .slice (some ⟨w12.heap.size, 0, none⟩) 1 1] 36)) (w12.heap.size) #[.int .u8 2, .int .i64 1, .string ⟨#[]⟩] 38 := by simpa only [World.size_alloc, Nat.add_assoc, Nat.reduceAdd] using (At.new w12 #[.int .u8 2, .int .i64 1, .string ⟨#[]⟩] 38).alloc (.cells #[.slice (some ⟨gA, 0, none⟩) 1 1, .slice (some ⟨w12.heap.size, 0, none⟩) 1 1] 36)
        have zH : At ((w12.alloc (.cells #[.int .u8 2, .int .i64 1, .string ⟨#[]⟩] 38)).alloc (.cells #[.slice (some ⟨gA, 0, none⟩) 1 1, .slice (some ⟨w12.heap.size, 0, none⟩) 1 1] 36)) (w12.heap.size + 1) #[.slice (some ⟨gA, 0, none⟩) 1 1, .slice (some ⟨w12.heap.size, 0, none⟩) 1 1] 36 := by simpa only [World.size_alloc, Nat.add_assoc, Nat.reduceAdd] using At.new (w12.alloc (.cells #[.int .u8 2, .int .i64 1, .string ⟨#[]⟩] 38)) #[.slice (some ⟨gA, 0, none⟩) 1 1, .slice (some ⟨w12.heap.size, 0, none⟩) 1 1] 36
        have BB : Below w12.heap.size w12 ((w12.alloc (.cells #[.int .u8 2, .int .i64 1, .string ⟨#[]⟩] 38)).alloc (.cells #[.slice (some ⟨gA, 0, none⟩) 1 1, .slice (some ⟨w12.heap.size, 0, none⟩) 1 1] 36)) := Below.alloc (Below.alloc (Below.refl w12.heap.size w12) (by (try simp only [World.size_alloc]) <;> omega) (.cells #[.int .u8 2, .int .i64 1, .string ⟨#[]⟩] 38)) (by (try simp only [World.size_alloc]) <;> omega) (.cells #[.slice (some ⟨gA, 0, none⟩) 1 1, .slice (some ⟨w12.heap.size, 0, none⟩) 1 1] 36)
        replace M5 := OutM.below M5 BB
        replace zk := At.mono zk BB
        replace zA := At.mono zA BB
        clear BB
        have HGB : Hid ((Value.slice a5 N c5).ownBlock ≠ some w12.heap.size) := Lib.hid (fun e => by have := hLB _ e; omega)
        clear hLB
        generalize ((w12.alloc (.cells #[.int .u8 2, .int .i64 1, .string ⟨#[]⟩] 38)).alloc (.cells #[.slice (some ⟨gA, 0, none⟩) 1 1, .slice (some ⟨w12.heap.size, 0, none⟩) 1 1] 36)) = w13 at zB zH M5 zk zA ⊢
        generalize w12.heap.size + 1 = gH at zH ⊢
        generalize w12.heap.size = gB at zB zH hgB HGB ⊢
        have okA := nRw_ok zA hgA HGA.out
        have okB := nRw_ok zB hgB HGB.out
        refine Stop.mk (app_rws w _ _ rfl rfl M5.O rfl rfl (news := [nRw gA 9223372036854775807, nRw gB 1]) rfl (At.cs15 zH) (by omega) ?_)
        intro a6 c6 w14 O6 g6 k6
        have M6 := M5.pushs (fun r hr => by
          simp only [List.mem_cons, List.not_mem_nil, or_false] at hr
          rcases hr with rfl | rfl
          · exact okA
          · exact okB) O6 g6 k6
        have zk2 := zk.grownK g6 HKK.out
        have HX4 : Hid ((rows ++ [nRw gA 9223372036854775807, nRw gB 1]).map (·.l) = rowsZ (ys ++ [9223372036854775807, 1])) := Lib.hid (by rw [List.map_append, HX3.out]; unfold rowsZ; simp only [List.map_append]; rfl)
        have HZ4 : Hid ((ys ++ [9223372036854775807, 1]).sum = n + 9223372036854775808 ∧ (ys ++ [9223372036854775807, 1]).length = N + 2 ∧ ∀ z ∈ ys ++ [9223372036854775807, 1], inI z) := Lib.hid ⟨by rw [List.sum_append, HZS.out.1]; simp only [List.sum_cons, List.sum_nil]; omega, by rw [List.length_append, HZS.out.2.1]; rfl, fun z hz => by
          rcases List.mem_append.1 hz with h | h
          · exact HZS.out.2.2 z h
          · simp only [List.mem_cons, List.not_mem_nil, or_false] at h
            rcases h with rfl | rfl
            · exact ⟨by decide, by decide⟩
            · exact ⟨by decide, by decide⟩⟩
        clear M5 okA okB O6 g6 k6 zA zB zH zk HX3 HZS hgA HGA hgB HGB HRN
        generalize rows ++ [nRw gA 9223372036854775807, nRw gB 1] = rows at M6 HX4
        have hne4 : ys ++ [9223372036854775807, 1] ≠ [] := by simp
        generalize ys ++ [9223372036854775807, 1] = ys at HX4 HZ4 hne4
        have HNE4 := Lib.hid hne4
        clear hne4
        have hle6 := owns_le M6.O.1
        have hmx6 : c6 ≤ 9223372036854775807 := owns_max M6.O.1
        go_wp2_with (first | (at_make; refine Stop.un ?_) | (at_builtin; refine Stop.un ?_) | (with_reducible refine Stop.conv 22 9 ?_) | (with_reducible refine Stop.conv 9 22 ?_))
        have zg : At (w14.alloc (.cells #[.int .u8 3, .int .i64 0] 34)) (w14.heap.size) #[.int .u8 3, .int .i64 0] 34 := by simpa only [World.size_alloc, Nat.add_assoc, Nat.reduceAdd] using At.new w14 #[.int .u8 3, .int .i64 0] 34
        have BB : Below w14.heap.size w14 (w14.alloc (.cells #[.int .u8 3, .int .i64 0] 34)) := Below.alloc (Below.refl w14.heap.size w14) (by (try simp only [World.size_alloc]) <;> omega) (.cells #[.int .u8 3, .int .i64 0] 34)
        replace M6 := OutM.below M6 BB
        replace zk2 := At.mono zk2 BB
        clear BB
        generalize (w14.alloc (.cells #[.int .u8 3, .int .i64 0] 34)) = w15 at zg M6 zk2 ⊢
        generalize w14.heap.size = gG at zg ⊢
        have hrn : ∀ r ∈ rows, r.n ≤ 1000 := fun r hr => by
          have h2 : r.l ∈ rowsZ ys := HX4.out ▸ List.mem_map_of_mem hr
          obtain ⟨y, _, e⟩ := List.mem_map.1 h2
          have h3 := (M6.F r hr).1.len
          rw [← e] at h3
          simp only [List.length_singleton] at h3
          omega
        have hl4 := HZ4.out.2.1
        have hgr := grows_any (some ⟨gK, 0, none⟩) 1 1 [2] a6 (N + 2) c6 rows none 0 0 [] (some ⟨gG, 0, none⟩) 1 1 [⟨3, 0⟩] w15 (At.cs15 (xs := bcells [2]) zk2) rfl (by decide) (by decide) ⟨Own.cs M6.O, fun r hr => (M6.F r hr).1⟩ (OwnRs.length M6.O) (owns_le M6.O.1) (owns_max M6.O.1) (by omega) hrn (Cs.nil _ _) rfl (by decide) (by decide) (by decide) (At.cs15 (xs := agcells [⟨3, 0⟩]) zg) rfl (by decide) (by decide) (by decide)
        rw [HX4.out, show rowsZ ys = (ys).map (fun z => [numG z]) from rfl, grp_sum ys HNE4.out (by omega) HZ4.out.2.2, HZ4.out.1] at hgr
        by_cases hneg : n < 0
        ·
          rw [if_pos (by omega)] at hgr
          have HGR := Lib.hid hgr
          have hd : decide ((0 : Int) ≤ n) = false := decide_eq_false (by omega)
          have bM := Own.below M6.O
          clear hgr hrn hl4 zk2 zg M6 hneg
          refine HGR.out.mono ?_
          rintro e wG ⟨aA, nA, cA, rA, rfl, MA, hA⟩
          have bE := bM.next (Own.below MA.O)
          clear HGR MA hA
          go_wp2_with (first | (at_make; refine Stop.un ?_) | (at_builtin; refine Stop.un ?_) | (with_reducible refine Stop.conv 22 9 ?_) | (with_reducible refine Stop.conv 9 22 ?_))
          go_ret
          exact ⟨by first | rfl | simp, bE⟩
        ·
          rw [if_neg (by omega)] at hgr
          have HGR := Lib.hid hgr
          have hd : decide ((0 : Int) ≤ n) = true := decide_eq_true (by omega)
          have bM := Own.below M6.O
          clear hgr hrn hl4 zk2 zg M6 hneg
          refine HGR.out.mono ?_
          rintro e wG ⟨aA, nA, cA, rA, rfl, MA, hA⟩
          have bE := bM.next (Own.below MA.O)
          clear HGR MA hA
          go_wp2_with (first | (at_make; refine Stop.un ?_) | (at_builtin; refine Stop.un ?_) | (with_reducible refine Stop.conv 22 9 ?_) | (with_reducible refine Stop.conv 9 22 ?_))
          go_ret
          exact ⟨by first | rfl | simp, bE⟩
end Go.Proofs.Ytbiniecjenencaa
