/- Frame. -/
import Derived.Test.YtcjnehlbkjpgbaaRUnpack
import Derived.Test.YtcjnehlbkjpgbaaInts
import Derived.Test.YtcjnehlbkjpgbaaRef
set_option linter.unusedVariables false
set_option linter.unusedSimpArgs false
namespace Go.Proofs.Ytcjnehlbkjpgbaa
open Go.RowKit
def inI (l : List Int) : Prop := ∀ n ∈ l, -9223372036854775808 ≤ n ∧ n ≤ 9223372036854775807
def minE : List Int → Int
  | [] => 0
  | x :: r => r.foldl min x
theorem foldmin_le : ∀ (l : List Int) (a : Int), l.foldl min a ≤ a ∧ (∀ n ∈ l, l.foldl min a ≤ n) ∧ (l.foldl min a = a ∨ l.foldl min a ∈ l)
  | [], a => by simp
  | x :: l, a => by
    obtain ⟨h1, h2, h3⟩ := foldmin_le l (min a x)
    rw [List.foldl_cons]
    refine ⟨by omega, ?_, ?_⟩
    · intro n hn
      rcases List.mem_cons.1 hn with rfl | hn
      · omega
      · exact h2 n hn
    · rcases h3 with h3 | h3
      · rw [h3]
        rcases (show min a x = a ∨ min a x = x by omega) with e | e
        · exact .inl e
        · rw [e]; exact .inr (by simp)
      · exact .inr (List.mem_cons_of_mem _ h3)
theorem minE_le (l : List Int) : ∀ n ∈ l, minE l ≤ n := by
  cases l with
  | nil => simp
  | cons x r =>
    intro n hn
    have h := foldmin_le r x
    rcases List.mem_cons.1 hn with rfl | hn
    · exact h.1
    · exact h.2.1 n hn
theorem minE_mem (l : List Int) (h : l ≠ []) : minE l ∈ l := by
  cases l with
  | nil => exact absurd rfl h
  | cons x r =>
    rcases (foldmin_le r x).2.2 with e | e
    · show r.foldl min x ∈ _; rw [e]; simp
    · exact List.mem_cons_of_mem _ e
theorem minE_step (l : List Int) (j : Nat) (h0 : 0 < j) (hj : j < l.length) : minE (l.take (j + 1)) = min (minE (l.take j)) l[j] := by
  rw [List.take_succ_eq_append_getElem hj]
  cases l with
  | nil => simp at hj
  | cons x r =>
    obtain ⟨k, rfl⟩ : ∃ k, j = k + 1 := ⟨j - 1, by omega⟩
    have hk : k < r.length := by simp at hj; omega
    simp only [List.take_succ_cons, List.cons_append, minE, List.foldl_append, List.foldl_cons, List.foldl_nil]
def moreL (l : List Int) : List Nat := l.map fun n => (n - minE l).toNat
theorem moreL_length (l : List Int) : (moreL l).length = l.length := by simp [moreL]
theorem moreL_lt (l : List Int) (h : inI l) : ∀ x ∈ moreL l, x < 2 ^ 64 := by
  intro x hx
  obtain ⟨n, hn, rfl⟩ := List.mem_map.1 hx
  have h1 := h n hn
  have h2 := h _ (minE_mem l (fun e => by rw [e] at hn; simp at hn))
  omega
theorem more_eq (n least : Int) (hn : -9223372036854775808 ≤ n ∧ n ≤ 9223372036854775807) (hl : -9223372036854775808 ≤ least ∧ least ≤ 9223372036854775807) (h : least ≤ n) :
    IntKind.u64.wrap (IntKind.u64.wrap n - IntKind.u64.wrap least) = (((n - least).toNat : Nat) : Int) := by
  rw [IntKind.wrap_u64, IntKind.wrap_u64, IntKind.wrap_u64]
  omega
def frameB (l : List Int) : List UInt8 := numB l.length ++ (if l = [] then [] else intB (minE l) ++ (numB (widN (moreL l)) ++ packB (moreL l) (widN (moreL l))))
def frameE (l : List Int) : Int := if 4096 < l.length then 3 else 0
def frameR (l : List Int) : List UInt8 := if 4096 < l.length then [] else frameB l
theorem widN_max (l : List Nat) (h : ∀ x ∈ l, x < 2 ^ 64) : ∀ x ∈ l, x < 2 ^ widN l := (widN_le l _ h).1 (Nat.le_refl _)
theorem At.cs {w : World} {g : Nat} {xs : List Value} {t : TypeId} (z : At w g xs.toArray t) : Cs w (some ⟨g, 0, none⟩) xs := by
  intro j u hj
  exact ⟨g, 0, rfl, by rw [Nat.zero_add]; exact z.cell j (by simpa using hj)⟩
set_option maxHeartbeats 1000000 in
theorem min_any (ao : Option Addr) (m cap : Nat) (l : List Int) (w : World) (hc : Cs w ao (icells l)) (hm : l.length = m) (h0 : 0 < m) (hlc : m ≤ cap) (hl : cap ≤ maxLen) (hi : inI l) :
    Calls Try.prog 28 #[.slice ao m cap] w (fun e w' => e = .returned (.int .i64 (minE l)) ∧ w = w') := by
  unfold maxLen at hl
  have HM := Lib.hid hm
  have HI := Lib.hid hi
  obtain ⟨b, o, rfl⟩ := hc.addr (by rw [icells_length]; omega)
  have hl0 : 0 < l.length := by omega
  have x0 : w.cell? ⟨b, o + 0, none⟩ = some (.int .i64 l[0]) := hc.at (by simp [icells, hl0])
  rw [Nat.add_zero] at x0
  have h1 : l[0] = minE (l.take 1) := by cases l with
    | nil => simp at hl0
    | cons x r => rfl
  have hx := hi l[0] (List.getElem_mem _)
  rw [h1] at x0
  have HMI : Hid (∀ j, 0 < j → -9223372036854775808 ≤ minE (l.take j) ∧ minE (l.take j) ≤ 9223372036854775807) := Lib.hid (fun j hj => hi _ (List.mem_of_mem_take (minE_mem (l.take j) (fun e => by
    have := congrArg List.length e
    simp at this
    rcases this with h | h
    · omega
    · rw [h] at hl0; simp at hl0))))
  clear hm hi h1 hx hl0
  go_enter Try.func28, Try.ntmps28
  go_wp2_with (first | (at_make; refine Stop.un ?_) | (at_builtin; refine Stop.un ?_) | (with_reducible refine Stop.conv 24 9 ?_) | (with_reducible refine Stop.conv 9 24 ?_))
  go_loopw [3, 4] (fun a i wr => ∃ j : Nat, 1 ≤ j ∧ j ≤ m ∧ a = .int .i64 (minE (l.take j)) ∧ i = .int .i64 (j : Int) ∧ wr = w) (fun _ i _ => m - (intOf i).toNat)
  case atStart => exact ⟨1, Nat.le_refl _, h0, rfl, rfl, rfl⟩
  case round =>
    obtain ⟨j, hj0, hj, rfl, rfl, rfl⟩ := hrel
    by_cases hlt : j < m
    · have hjl : j < l.length := by have := HM.out; omega
      have HST := Lib.hid (minE_step l j hj0 hjl)
      have x1 : wr.cell? ⟨b, o + j, none⟩ = some (.int .i64 l[j]) := hc.at (by simp [icells, hjl])
      have hx := HI.out l[j] (List.getElem_mem _)
      have hy := HMI.out j hj0
      generalize l[j] = x at x1 HST hx
      generalize minE (l.take j) = y at hy HST ⊢
      clear hjl x0
      go_wp2_with (first | (at_make; refine Stop.un ?_) | (at_builtin; refine Stop.un ?_) | (with_reducible refine Stop.conv 24 9 ?_) | (with_reducible refine Stop.conv 9 24 ?_))
      go_roundw
      case rel => exact ⟨j + 1, by omega, by omega, by rw [HST.out], by go_num, True.intro⟩
      case measure => simp [intOf]; omega
    · have hjm : j = m := by omega
      have hE : minE (l.take j) = minE l := by rw [List.take_of_length_le (by have := HM.out; omega)]
      rw [hE]
      clear hE x0
      go_wp2_with (first | (at_make; refine Stop.un ?_) | (at_builtin; refine Stop.un ?_) | (with_reducible refine Stop.conv 24 9 ?_) | (with_reducible refine Stop.conv 9 24 ?_))
      go_ret
      exact ⟨rfl, rfl⟩
set_option maxHeartbeats 4000000 in
set_option maxRecDepth 100000 in
theorem frame_any (ao : Option Addr) (m cap : Nat) (l : List Int) (w : World) (hc : Cs w ao (icells l)) (hm : l.length = m) (hlc : m ≤ cap) (hl : cap ≤ maxLen) (hi : inI l) :
    Calls Try.prog 20 #[.slice ao m cap] w (RetP w (frameR l) (frameE l)) := by
  have hl2 := hl
  unfold maxLen at hl
  by_cases h4 : 4096 < m
  · rw [show frameR l = [] from if_pos (by omega), show frameE l = 3 from if_pos (by omega)]
    clear hc hi hm
    go_enter Try.func20, Try.ntmps20
    go_wp2_with (first | (at_make; refine Stop.un ?_) | (at_builtin; refine Stop.un ?_) | (with_reducible refine Stop.conv 24 9 ?_) | (with_reducible refine Stop.conv 9 24 ?_))
    go_ret2
    exact ⟨none, 0, 0, rfl, rfl, Own.nil _ _ (Below.refl _ _)⟩
  · rw [show frameR l = frameB l from if_neg (by omega), show frameE l = 0 from if_neg (by omega)]
    have hf : frameB l = numB m ++ (if l = [] then [] else intB (minE l) ++ (numB (widN (moreL l)) ++ packB (moreL l) (widN (moreL l)))) := by rw [← hm]; rfl
    have HNUM := Lib.hid (fun w => num_any none 0 0 [] (m : Int) w (Cs.nil _ _) rfl (by omega) (by omega) (by omega))
    rw [Int.toNat_natCast, List.nil_append] at HNUM
    by_cases h0 : m = 0
    · subst h0
      have hl0 : l = [] := List.eq_nil_of_length_eq_zero hm
      rw [if_pos hl0, List.append_nil] at hf
      have HFF := Lib.hid hf
      clear hf hc hi hm hl0
      generalize frameB l = fb at HFF ⊢
      go_enter Try.func20, Try.ntmps20
      go_wp2_with (first | (at_make; refine Stop.un ?_) | (at_builtin; refine Stop.un ?_) | (with_reducible refine Stop.conv 24 9 ?_) | (with_reducible refine Stop.conv 9 24 ?_))
      refine (HNUM.out _).mono ?_
      rintro e w1 ⟨a1, n1, c1, h1, rfl, o1⟩
      have H1 := Lib.hid h1
      clear h1
      go_wp2_with (first | (at_make; refine Stop.un ?_) | (at_builtin; refine Stop.un ?_) | (with_reducible refine Stop.conv 24 9 ?_) | (with_reducible refine Stop.conv 9 24 ?_))
      go_ret2
      rw [HFF.out]
      exact ⟨_, _, _, H1.out, rfl, o1⟩
    · have hln : l ≠ [] := fun e => h0 (by rw [← hm, e]; rfl)
      have hmin := hi _ (minE_mem l hln)
      rw [if_neg hln] at hf
      have hmo := moreL_lt l hi
      have hml := moreL_length l
      have hwl := widN_max _ hmo
      have hw64 := widN_le64 (moreL l)
      have HWD : Hid (∀ g n w, n = m → At w g (ucells (moreL l)).toArray 47 → Calls Try.prog 15 #[.slice (some ⟨g, 0, none⟩) n n] w (fun e w' => e = .returned (.int .i64 (widN (moreL l) : Int)) ∧ w = w')) := Lib.hid (fun g n w hn z => width_any _ n n (moreL l) w (At.cs z) (by rw [hml, hm, hn]) (Nat.le_refl _) (by unfold maxLen; omega) hmo)
      have HPK : Hid (∀ g n w, n = m → At w g (ucells (moreL l)).toArray 47 → Calls Try.prog 10 #[.slice (some ⟨g, 0, none⟩) n n, .int .i64 (widN (moreL l) : Int)] w (RetP w (packB (moreL l) (widN (moreL l))) 0)) := Lib.hid (fun g n w hn z => by
        have h := pack_any (some ⟨g, 0, none⟩) n n (widN (moreL l) : Int) (moreL l) w (At.cs z) (by rw [hml, hm, hn]) (Nat.le_refl _) hmo
        rwa [packR_ok _ _ (by rw [hml, hm]; exact bytE_ok m _ (by omega) hw64) (by omega), packE_ok _ _ (by rw [hml, hm]; exact bytE_ok m _ (by omega) hw64) (by omega)] at h)
      have hpl : (packB (moreL l) (widN (moreL l))).length ≤ 40000 := by
        rw [packB_length, hml, hm]
        have : m * widN (moreL l) ≤ 4096 * 64 := Nat.mul_le_mul (by omega) hw64
        omega
      have HMIN := Lib.hid (fun w hc => min_any ao m cap l w hc hm (by omega) hlc hl2 hi)
      have HMG : Hid (∀ j (h : j < l.length), (moreL l)[j]? = some (l[j] - minE l).toNat) := Lib.hid (fun j h => by simp [moreL, h])
      have HLE : Hid (∀ j (h : j < l.length), minE l ≤ l[j]) := Lib.hid (fun j h => minE_le l _ (List.getElem_mem h))
      have HML : Hid ((moreL l).length = m) := Lib.hid (by rw [hml, hm])
      have HI := Lib.hid hi
      have HM := Lib.hid hm
      have HFF := Lib.hid hf
      have HPL := Lib.hid hpl
      clear hf hi hm hln hmo hwl hml hpl
      generalize frameB l = fb at HFF ⊢
      generalize minE l = least at HFF HMIN hmin HMG HLE
      generalize packB (moreL l) (widN (moreL l)) = pk at HFF HPK HPL
      generalize widN (moreL l) = W at HFF HPK HWD hw64
      generalize moreL l = mo at HPK HWD HMG HML
      have HZ : Hid ((List.replicate m 0).length = m ∧ (List.replicate m (0 : Nat)).take 0 = mo.take 0) := Lib.hid (by simp)
      obtain ⟨b, o, rfl⟩ := hc.addr (by rw [icells_length]; have := HM.out; omega)
      have hbw : b < w.heap.size := by
        have h00 : 0 < l.length := by have := HM.out; omega
        exact lt_cell (hc.at (show (icells l)[0]? = some (.int .i64 l[0]) by simp [icells, h00]))
      obtain ⟨i0, hi, hz0, hz1, hz2⟩ := info_parts Try.infoU64
      go_enter Try.func20, Try.ntmps20
      go_wp2_with (first | (at_make; refine Stop.un ?_) | (at_builtin; refine Stop.un ?_) | (with_reducible refine Stop.conv 24 9 ?_) | (with_reducible refine Stop.conv 9 24 ?_))
      refine (HNUM.out _).mono ?_
      rintro e w1 ⟨a1, n1, c1, h1, rfl, o1⟩
      have H1 := Lib.hid h1
      have hn1 : n1 ≤ 9 := by have := numB_length m; omega
      replace hc := hc.mono (Own.below o1) (Nat.le_refl _)
      clear h1
      go_wp2_with (first | (at_make; refine Stop.un ?_) | (at_builtin; refine Stop.un ?_) | (with_reducible refine Stop.conv 24 9 ?_) | (with_reducible refine Stop.conv 9 24 ?_))
      refine (HMIN.out _ hc).mono ?_
      rintro e w2 ⟨rfl, rfl⟩
      go_wp2_with (first | (at_make; refine Stop.un ?_) | (at_builtin; refine Stop.un ?_) | (with_reducible refine Stop.conv 24 9 ?_) | (with_reducible refine Stop.conv 9 24 ?_))
      refine Stop.mk (wpList_make_full _ rfl _ _ 22 rfl w1.heap.size 47 i0 (.int .u64 0) 1 Try.underlying22 hi hz0 hz1 _ _ _ _ m rfl rfl rfl rfl (by rw [hz2]; omega) (by unfold maxLen; omega) (Nat.le_refl _) ?_)
      intro w7 o7 g7
      have b7 : Below w1.heap.size w1 w7 := (Below.refl _ _).grown g7 (Nat.le_refl _) (fun _ h => by cases h)
      have k7 := own_at o7
      rw [show (madeCells (Value.int .u64 0).cells (m * 1)).toList = ucells (List.replicate m 0) from by simp [ucells, Value.cells, toList_madeCells_one]] at k7
      have hs1 : w.heap.size ≤ w1.heap.size := (Own.below o1).size
      generalize List.replicate m (0 : Nat) = xs0 at HZ k7
      clear o7 g7 hz2 hz1 hz0 hi i0
      go_wp2_with (first | (at_make; refine Stop.un ?_) | (at_builtin; refine Stop.un ?_) | (with_reducible refine Stop.conv 24 9 ?_) | (with_reducible refine Stop.conv 9 24 ?_))
      go_loopw [30] (fun i wr => ∃ (j : Nat) (xs : List Nat), j ≤ m ∧ i = .int .i64 (j : Int) ∧ Below w1.heap.size w1 wr ∧ At wr w1.heap.size (ucells xs).toArray 47 ∧ Hid (xs.length = m ∧ xs.take j = mo.take j)) (fun i _ => m - (intOf i).toNat)
      case atStart => exact ⟨0, xs0, Nat.zero_le _, rfl, b7, k7, HZ⟩
      case round =>
        clear HZ b7 k7
        obtain ⟨j, xs, hj, rfl, b1, z, HX⟩ := hrel
        by_cases hlt : j < m
        · have hjl : j < l.length := by have := HM.out; omega
          have x0 : wr.cell? ⟨b, o + j, none⟩ = some (.int .i64 l[j]) := (hc.mono b1 (Nat.le_refl _)).at (by simp [icells, hjl])
          have hx := HI.out l[j] (List.getElem_mem _)
          have hme := more_eq l[j] least hx hmin (HLE.out j hjl)
          have hmg := HMG.out j hjl
          have hjm : j < mo.length := by have := HML.out; omega
          have HX2 : Hid ((xs.set j (l[j] - least).toNat).length = m ∧ (xs.set j (l[j] - least).toNat).take (j + 1) = mo.take (j + 1)) := Lib.hid (by
            have hxl : j < xs.length := by have := HX.out.1; omega
            refine ⟨by rw [List.length_set]; exact HX.out.1, ?_⟩
            rw [List.take_succ_eq_append_getElem (by rw [List.length_set]; exact hxl), List.take_succ_eq_append_getElem hjm, List.take_set_of_le (Nat.le_refl _), HX.out.2]
            congr 2
            rw [List.getElem_set_self]
            rw [List.getElem?_eq_getElem hjm] at hmg
            exact (Option.some.inj hmg).symm)
          have hxl : j < xs.length := by have := HX.out.1; omega
          have f0 := z.free j
          have x3 : wr.cell? ⟨w1.heap.size, j, none⟩ = some (.int .u64 ((xs[j] : Nat) : Int)) := z.cell j (by simp [ucells, hxl])
          have zl := z.lt
          generalize xs[j] = old at x3
          have HME := Lib.hid hme
          generalize l[j] = x at x0 hx hmg HX2 HME
          clear hme hmg
          go_wp2_with (first | (at_make; refine Stop.un ?_) | (at_builtin; refine Stop.un ?_) | (with_reducible refine Stop.conv 24 9 ?_) | (with_reducible refine Stop.conv 9 24 ?_))
          have z2 := z.putU (i := j) (x - least).toNat HME.out
          have b2 := b1.setCell (p := ⟨w1.heap.size, j, none⟩) (Nat.le_refl _) (.int .u64 (IntKind.u64.wrap (IntKind.u64.wrap x - IntKind.u64.wrap least)))
          clear z b1 x0 x3 f0 HX
          generalize wr.setCell ⟨w1.heap.size, j, none⟩ _ = w9 at z2 b2 ⊢
          go_roundw
          case rel => exact ⟨j + 1, _, by omega, by go_num, b2, z2, HX2⟩
          case measure => simp [intOf]; omega
        · have hjm : j = m := by omega
          have hxm : xs = mo := by
            have h := HX.out.2
            rwa [List.take_of_length_le (by rw [HX.out.1]; omega), List.take_of_length_le (by rw [HML.out]; omega)] at h
          rw [hxm] at z
          clear HX hxm hlt hj
          subst hjm
          replace o1 := Own.keep o1 b1
          go_wp2_with (first | (at_make; refine Stop.un ?_) | (at_builtin; refine Stop.un ?_) | (with_reducible refine Stop.conv 24 9 ?_) | (with_reducible refine Stop.conv 9 24 ?_))
          refine (HWD.out _ _ _ rfl z).mono ?_
          rintro e w2 ⟨rfl, rfl⟩
          go_wp2_with (first | (at_make; refine Stop.un ?_) | (at_builtin; refine Stop.un ?_) | (with_reducible refine Stop.conv 24 9 ?_) | (with_reducible refine Stop.conv 9 24 ?_))
          refine (HPK.out _ _ _ rfl z).mono ?_
          rintro e w8 ⟨a8, n8, c8, h8, rfl, o8⟩
          have hn8 : n8 ≤ 40000 := by have := HPL.out; omega
          have H8 := Lib.hid h8
          have cs8 := Own.cs o8
          replace o1 := Own.keep o1 (Own.below o8)
          clear o8 h8 z b1
          go_wp2_with (first | (at_make; refine Stop.un ?_) | (at_builtin; refine Stop.un ?_) | (with_reducible refine Stop.conv 24 9 ?_) | (with_reducible refine Stop.conv 9 24 ?_))
          refine (int_any a1 n1 c1 _ least _ (Own.cs o1) H1.out (by omega) hmin.1 hmin.2).mono ?_
          rintro e w9 ⟨a9, n9, c9, h9, rfl, o9⟩
          have hn9 : n9 ≤ 18 := by have := numB_length (Lib.zigzag least); have := H1.out; unfold intB at h9; simp at h9; omega
          have H9 := Lib.hid h9
          replace cs8 := cs8.mono (Own.below o9) (Nat.le_refl _)
          replace o9 := Own.up o9 (Own.below o1)
          clear h9 o1
          go_wp2_with (first | (at_make; refine Stop.un ?_) | (at_builtin; refine Stop.un ?_) | (with_reducible refine Stop.conv 24 9 ?_) | (with_reducible refine Stop.conv 9 24 ?_))
          refine (num_any a9 n9 c9 _ (W : Int) _ (Own.cs o9) H9.out (by omega) (by omega) (by omega)).mono ?_
          rintro e wA ⟨aA, nA, cA, hA, rfl, oA⟩
          rw [Int.toNat_natCast] at hA oA
          have hnA : nA ≤ 27 := by have := numB_length W; have := H9.out; simp at hA this; omega
          have HA := Lib.hid hA
          replace cs8 := cs8.mono (Own.below oA) (Nat.le_refl _)
          replace oA := Own.up oA (Own.below o9)
          clear hA o9
          go_wp2_with (first | (at_make; refine Stop.un ?_) | (at_builtin; refine Stop.un ?_) | (with_reducible refine Stop.conv 24 9 ?_) | (with_reducible refine Stop.conv 9 24 ?_))
          refine Stop.mk (app_bs w _ _ rfl rfl oA rfl rfl H8.out cs8 (by omega) ?_)
          intro aB cB wB oB
          go_wp2_with (first | (at_make; refine Stop.un ?_) | (at_builtin; refine Stop.un ?_) | (with_reducible refine Stop.conv 24 9 ?_) | (with_reducible refine Stop.conv 9 24 ?_))
          go_ret2
          have hfb : fb = numB j ++ intB least ++ numB W ++ pk := by rw [HFF.out]; simp
          rw [← hfb] at oB
          exact ⟨_, _, _, by have := Own.length oB; simpa [bcells_length] using this, rfl, oB⟩
end Go.Proofs.Ytcjnehlbkjpgbaa
