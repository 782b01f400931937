/- What is known by bytes: what the program returns. -/
import Derived.Test.YtdpmaocbfmgmlaaZRight
import Derived.Test.YtdpmaocbfmgmlaaCTake
set_option linter.unusedVariables false
set_option linter.unusedSimpArgs false
namespace Go.Proofs.Ytdpmaocbfmgmlaa
open Go.RowKit
theorem At.past {w w' : World} {g : Nat} {cs : Array Value} {t : TypeId} {row : Option Nat} (h : At w g cs t) (hg : w.grownBy w' row) (hn : some g ≠ row) : At w' g cs t := (hg.block g h.lt hn).trans h
theorem Rdr.under {e : TypeId} {B T : Nat} {w x : World} {g : Nat} {l : List UInt8} {bad : Bool} (h : Rdr e B T w g l bad) (hb : RX T none w x) : Rdr e B T x g l bad := by
  obtain ⟨ao, n, cap, hh, hl, hn, hcap, hc, hB, hne⟩ := h
  exact ⟨ao, n, cap, (hb.block g hB.2 (by simp)).trans hh, hl, hn, hcap, hb.cs hc (fun a ha => ⟨(hne a ha).2.2, by simp⟩), hB, hne⟩
theorem RX.more {B : Nat} {g : Option Nat} {w x : World} (h : RX B none w x) : RX B g w x := ⟨h.os, h.tape, h.output, h.size, fun k hk _ => h.block k hk (by simp)⟩
def tzZ (k : Int) (b : List UInt8) : Zn := (takeZ k b).getD Zn.zero
def tzE (k : Int) (b : List UInt8) : Int := if kindB k = true then (if (takeZ k b).isSome = true then 0 else 6) else 1
theorem tailZ_bad {k : Int} {lo hi : V} {r : List UInt8} (h : kindB k = false) : tailZ k lo hi r = none := by
  unfold tailZ rightZ
  rw [h]
  simp
theorem takeZ_bad {k : Int} {b : List UInt8} (h : kindB k = false) : takeZ k b = none := by
  unfold takeZ
  split
  · rfl
  · split
    · rfl
    · exact tailZ_bad h
theorem takeV_in {l : List UInt8} {v : V} {r : List UInt8} (h : takeV l = some (v, r)) : InR v.n := by
  match l, h with
  | c :: s, h =>
    simp only [takeV] at h
    split at h
    · cases h
    · simp only [Option.some.injEq, Prod.mk.injEq] at h
      rw [← h.1]
      unfold takeK InR
      split
      · have := rdN_lt s; unfold zag; simp only; split <;> omega
      · split <;> simp only <;> omega
theorem zag_in {n : Nat} (h : n < 18446744073709551616) : InR (zag n) := by unfold InR zag; split <;> omega
theorem end_two (r : List UInt8) (b : Bool) : endE r b = 0 ∨ endE r b = 6 := by unfold endE; split <;> simp
set_option maxRecDepth 100000 in
set_option maxHeartbeats 8000000 in
theorem ztake_bad (kd : Int) (ao : Option Addr) (m cap : Nat) (l : List UInt8) (w : World) (hk : kindB kd = false) :
    Calls Try.prog 24 #[.int .u8 kd, .slice ao m cap] w (fun e w' => e = .returned (.tuple #[(tzZ kd l).val, .int .i64 (tzE kd l)]) ∧ Below w.heap.size w w') := by
  have HRES : Hid ((Value.tuple #[(tzZ kd l).val, .int .i64 (tzE kd l)]) = .tuple #[Zn.zero.val, .int .i64 1]) := Lib.hid (by unfold tzZ tzE; rw [takeZ_bad hk, hk]; rfl)
  go_enter Try.func24, Try.ntmps24
  go_upto_region 1 with fail
  have zr : At (w.alloc (.cells #[.int .u8 0, .int .i64 0, .string ⟨#[]⟩, .int .u8 0, .int .i64 0, .string ⟨#[]⟩, .int .i64 0, .int .i64 0] 26)) (w.heap.size) #[.int .u8 0, .int .i64 0, .string ⟨#[]⟩, .int .u8 0, .int .i64 0, .string ⟨#[]⟩, .int .i64 0, .int .i64 0] 26 := by simpa only [World.size_alloc, Nat.add_assoc, Nat.reduceAdd] using At.new w #[.int .u8 0, .int .i64 0, .string ⟨#[]⟩, .int .u8 0, .int .i64 0, .string ⟨#[]⟩, .int .i64 0, .int .i64 0] 26
  have BB : Below w.heap.size w (w.alloc (.cells #[.int .u8 0, .int .i64 0, .string ⟨#[]⟩, .int .u8 0, .int .i64 0, .string ⟨#[]⟩, .int .i64 0, .int .i64 0] 26)) := Below.alloc (Below.refl w.heap.size w) (by (try simp only [World.size_alloc]) <;> omega) (.cells #[.int .u8 0, .int .i64 0, .string ⟨#[]⟩, .int .u8 0, .int .i64 0, .string ⟨#[]⟩, .int .i64 0, .int .i64 0] 26)
  generalize w.alloc (.cells #[.int .u8 0, .int .i64 0, .string ⟨#[]⟩, .int .u8 0, .int .i64 0, .string ⟨#[]⟩, .int .i64 0, .int .i64 0] 26) = wx at zr BB ⊢
  have HW0 := Lib.hid zr.lt
  go_wp2_with (first | (at_make; refine Stop.un ?_) | (at_builtin; refine Stop.un ?_) | (with_reducible refine Stop.conv 40 9 ?_) | (with_reducible refine Stop.conv 9 40 ?_))
  refine (zkind_any kd _).mono ?_
  rintro e w1 ⟨rfl, rfl⟩
  rw [hk]
  clear hk
  have fq0 := zr.free 0
  have gq0 := zr.cell 0 rfl
  have fq1 := zr.free 1
  have gq1 := zr.cell 1 rfl
  have fq2 := zr.free 2
  have gq2 := zr.cell 2 rfl
  have fq3 := zr.free 3
  have gq3 := zr.cell 3 rfl
  have fq4 := zr.free 4
  have gq4 := zr.cell 4 rfl
  have fq5 := zr.free 5
  have gq5 := zr.cell 5 rfl
  have fq6 := zr.free 6
  have gq6 := zr.cell 6 rfl
  have fq7 := zr.free 7
  have gq7 := zr.cell 7 rfl
  have lq := zr.lt
  go_wp2_with (first | (at_make; refine Stop.un ?_) | (at_builtin; refine Stop.un ?_) | (with_reducible refine Stop.conv 40 9 ?_) | (with_reducible refine Stop.conv 9 40 ?_))
  have RQ := zr.set8 (.int .u8 0) (.int .i64 0) (.string ⟨#[]⟩) (.int .u8 0) (.int .i64 0) (.string ⟨#[]⟩) (.int .i64 0) (.int .i64 0)
  have rq0 := RQ.cell 0 rfl
  have rq1 := RQ.cell 1 rfl
  have rq2 := RQ.cell 2 rfl
  have rq3 := RQ.cell 3 rfl
  have rq4 := RQ.cell 4 rfl
  have rq5 := RQ.cell 5 rfl
  have rq6 := RQ.cell 6 rfl
  have rq7 := RQ.cell 7 rfl
  have rql := RQ.lt
  exact bodyPost_ret (v := .tuple #[.agg #[.int .u8 0, .int .i64 0, .string ⟨#[]⟩, .int .u8 0, .int .i64 0, .string ⟨#[]⟩, .int .i64 0, .int .i64 0], .int .i64 1]) (by simp [results, Try.results24, go_sem, rq0, rq1, rq2, rq3, rq4, rq5, rq6, rq7]; done) rfl ⟨by first | rfl | (rw [HRES.out]; rfl), below_set8 BB _ _ _ _ _ _ _ _  (Nat.le_refl _)⟩
set_option maxRecDepth 100000 in
set_option maxHeartbeats 16000000 in
theorem ztake_ok (kd : Int) (ao : Option Addr) (m cap : Nat) (l : List UInt8) (w : World) (hc : Cs w ao (bcells l)) (hm : l.length = m) (hl : m ≤ 4000000000) (hlc : m ≤ cap) (hk : kindB kd = true) :
    Calls Try.prog 24 #[.int .u8 kd, .slice ao m cap] w (fun e w' => e = .returned (.tuple #[(tzZ kd l).val, .int .i64 (tzE kd l)]) ∧ Below w.heap.size w w') := by
  have HT : Hid (takeZ kd l = match takeV l with | none => none | some (lo, r1) => match takeV r1 with | none => none | some (hi, r2) => tailZ kd lo hi r2) := Lib.hid rfl
  have HTK1 := Lib.hid (fun w hc => take_any ao m cap l w hc hm (by omega) hlc)
  have HDR1 := Lib.hid (fun v r (h : takeV l = some (v, r)) => And.intro (takeV_drop h) (takeV_in h))
  have HRN : Hid (takeZ kd l = none → (Value.tuple #[(tzZ kd l).val, .int .i64 (tzE kd l)]) = .tuple #[Zn.zero.val, .int .i64 6]) := Lib.hid (fun h => by unfold tzZ tzE; rw [h, hk]; rfl)
  have HRS : Hid (∀ z, takeZ kd l = some z → (Value.tuple #[(tzZ kd l).val, .int .i64 (tzE kd l)]) = .tuple #[z.val, .int .i64 0]) := Lib.hid (fun z h => by unfold tzZ tzE; rw [h, hk]; rfl)
  have HM := Lib.hid hm
  clear hm
  go_enter Try.func24, Try.ntmps24
  go_upto_region 1 with fail
  have zr : At (w.alloc (.cells #[.int .u8 0, .int .i64 0, .string ⟨#[]⟩, .int .u8 0, .int .i64 0, .string ⟨#[]⟩, .int .i64 0, .int .i64 0] 26)) (w.heap.size) #[.int .u8 0, .int .i64 0, .string ⟨#[]⟩, .int .u8 0, .int .i64 0, .string ⟨#[]⟩, .int .i64 0, .int .i64 0] 26 := by simpa only [World.size_alloc, Nat.add_assoc, Nat.reduceAdd] using At.new w #[.int .u8 0, .int .i64 0, .string ⟨#[]⟩, .int .u8 0, .int .i64 0, .string ⟨#[]⟩, .int .i64 0, .int .i64 0] 26
  have BB : Below w.heap.size w (w.alloc (.cells #[.int .u8 0, .int .i64 0, .string ⟨#[]⟩, .int .u8 0, .int .i64 0, .string ⟨#[]⟩, .int .i64 0, .int .i64 0] 26)) := Below.alloc (Below.refl w.heap.size w) (by (try simp only [World.size_alloc]) <;> omega) (.cells #[.int .u8 0, .int .i64 0, .string ⟨#[]⟩, .int .u8 0, .int .i64 0, .string ⟨#[]⟩, .int .i64 0, .int .i64 0] 26)
  generalize w.alloc (.cells #[.int .u8 0, .int .i64 0, .string ⟨#[]⟩, .int .u8 0, .int .i64 0, .string ⟨#[]⟩, .int .i64 0, .int .i64 0] 26) = wx at zr BB ⊢
  have HW0 := Lib.hid zr.lt
  go_wp2_with (first | (at_make; refine Stop.un ?_) | (at_builtin; refine Stop.un ?_) | (with_reducible refine Stop.conv 40 9 ?_) | (with_reducible refine Stop.conv 9 40 ?_))
  refine (zkind_any kd _).mono ?_
  rintro e w1 ⟨rfl, rfl⟩
  rw [hk]
  clear hk
  replace hc := hc.mono BB (Nat.le_refl _)
  generalize ht1 : takeV l = o1 at HTK1 HDR1 HT
  go_wp2_with (first | (at_make; refine Stop.un ?_) | (at_builtin; refine Stop.un ?_) | (with_reducible refine Stop.conv 40 9 ?_) | (with_reducible refine Stop.conv 9 40 ?_))
  refine (HTK1.out _ hc).mono ?_
  rintro e w2 ⟨a2, n2, c2, hn2, rfl, o2⟩
  have bt := Own.below o2
  have cs2 := Own.cs o2
  have le2 := owns_le o2.1
  replace zr := At.mono zr bt
  replace BB := Below.next BB bt
  clear bt o2
  clear hc HTK1
  cases o1 with
  | none =>
    have HN : Hid (takeZ kd l = none) := Lib.hid HT.out
    clear HT HDR1 HM ht1 cs2 hn2
    simp only [tkV, tkE, V.zero, V.val, ← emp_mk]
    simp only [Option.isSome, Bool.false_eq_true, if_false]
    go_upto_region 4 with fail
    have z2 := At.new w2 #[.int .u8 0, .int .i64 0, .string ⟨#[]⟩] 24
    have bz := (Below.refl w2.heap.size w2).alloc (Nat.le_refl _) (.cells #[.int .u8 0, .int .i64 0, .string ⟨#[]⟩] 24)
    replace zr := At.mono zr bz
    replace BB := Below.next BB bz
    clear bz
    generalize w2.alloc (.cells #[.int .u8 0, .int .i64 0, .string ⟨#[]⟩] 24) = y2 at zr BB z2 ⊢
    generalize w2.heap.size = h2 at z2 ⊢
    have HRES := Lib.hid (HRN.out HN.out)
    clear HRN HRS HN
    have fq0 := zr.free 0
    have gq0 := zr.cell 0 rfl
    have fq1 := zr.free 1
    have gq1 := zr.cell 1 rfl
    have fq2 := zr.free 2
    have gq2 := zr.cell 2 rfl
    have fq3 := zr.free 3
    have gq3 := zr.cell 3 rfl
    have fq4 := zr.free 4
    have gq4 := zr.cell 4 rfl
    have fq5 := zr.free 5
    have gq5 := zr.cell 5 rfl
    have fq6 := zr.free 6
    have gq6 := zr.cell 6 rfl
    have fq7 := zr.free 7
    have gq7 := zr.cell 7 rfl
    have lq := zr.lt
    go_wp2_with (first | (at_make; refine Stop.un ?_) | (at_builtin; refine Stop.un ?_) | (with_reducible refine Stop.conv 40 9 ?_) | (with_reducible refine Stop.conv 9 40 ?_))
    have RQ := zr.set8 (.int .u8 0) (.int .i64 0) (.string ⟨#[]⟩) (.int .u8 0) (.int .i64 0) (.string ⟨#[]⟩) (.int .i64 0) (.int .i64 0)
    have rq0 := RQ.cell 0 rfl
    have rq1 := RQ.cell 1 rfl
    have rq2 := RQ.cell 2 rfl
    have rq3 := RQ.cell 3 rfl
    have rq4 := RQ.cell 4 rfl
    have rq5 := RQ.cell 5 rfl
    have rq6 := RQ.cell 6 rfl
    have rq7 := RQ.cell 7 rfl
    have rql := RQ.lt
    exact bodyPost_ret (v := .tuple #[.agg #[.int .u8 0, .int .i64 0, .string ⟨#[]⟩, .int .u8 0, .int .i64 0, .string ⟨#[]⟩, .int .i64 0, .int .i64 0], .int .i64 6]) (by simp [results, Try.results24, go_sem, rq0, rq1, rq2, rq3, rq4, rq5, rq6, rq7]; done) rfl ⟨by first | rfl | (rw [HRES.out]; rfl), below_set8 BB _ _ _ _ _ _ _ _  (Nat.le_refl _)⟩
  | some p1 =>
    obtain ⟨⟨k, n, s⟩, r1⟩ := p1
    obtain ⟨hd1, hin1⟩ := HDR1.out _ _ rfl
    simp only at hin1
    have hm1 := HM.out
    have hn2b : n2 < m := by have := hn2; simp only [tkL] at this; omega
    have hcs2 : Cs w2 a2 (bcells r1) := cs2
    have hn2c : r1.length = n2 := hn2
    clear cs2 hn2 hd1 hm1 HM HDR1 ht1
    have HT2 : Hid (takeZ kd l = match takeV r1 with | none => none | some (hi, r2) => tailZ kd ⟨k, n, s⟩ hi r2) := Lib.hid HT.out
    clear HT
    simp only [tkV, tkE, V.val]
    simp only [Option.isSome, if_true]
    go_upto_region 4 with fail
    have z2 := At.new w2 #[.int .u8 k, .int .i64 n, .string s] 24
    have bz := (Below.refl w2.heap.size w2).alloc (Nat.le_refl _) (.cells #[.int .u8 k, .int .i64 n, .string s] 24)
    replace zr := At.mono zr bz
    replace BB := Below.next BB bz
    replace hcs2 := Cs.mono hcs2 bz (Nat.le_refl _)
    clear bz
    generalize w2.alloc (.cells #[.int .u8 k, .int .i64 n, .string s] 24) = y2 at zr BB hcs2 z2 ⊢
    generalize w2.heap.size = h2 at z2 ⊢
    have HTK2 := Lib.hid (fun w hc => take_any a2 n2 c2 r1 w hc hn2c (by omega) le2)
    have HDR2 := Lib.hid (fun v r (h : takeV r1 = some (v, r)) => And.intro (takeV_drop h) (takeV_in h))
    have HN2 := Lib.hid hn2c
    clear hn2c
    generalize ht2 : takeV r1 = o2 at HTK2 HDR2 HT2
    have y2f := trivial
    clear y2f
    go_wp2_with (first | (at_make; refine Stop.un ?_) | (at_builtin; refine Stop.un ?_) | (with_reducible refine Stop.conv 40 9 ?_) | (with_reducible refine Stop.conv 9 40 ?_))
    refine (HTK2.out _ hcs2).mono ?_
    rintro e w3 ⟨a3, n3, c3, hn3, rfl, o3⟩
    have bt := Own.below o3
    have cs3 := Own.cs o3
    have le3 := owns_le o3.1
    replace zr := At.mono zr bt
    replace BB := Below.next BB bt
    replace z2 := At.mono z2 bt
    clear bt o3
    clear hcs2 HTK2
    cases o2 with
    | none =>
      have HN : Hid (takeZ kd l = none) := Lib.hid HT2.out
      clear HT2 HDR2 HN2 ht2 cs3 hn3 z2
      simp only [tkV, tkE, V.zero, V.val, ← emp_mk]
      simp only [Option.isSome, Bool.false_eq_true, if_false]
      go_upto_region 7 with fail
      have z3 := At.new w3 #[.int .u8 0, .int .i64 0, .string ⟨#[]⟩] 24
      have bz := (Below.refl w3.heap.size w3).alloc (Nat.le_refl _) (.cells #[.int .u8 0, .int .i64 0, .string ⟨#[]⟩] 24)
      replace zr := At.mono zr bz
      replace BB := Below.next BB bz
      clear bz
      generalize w3.alloc (.cells #[.int .u8 0, .int .i64 0, .string ⟨#[]⟩] 24) = y3 at zr BB z3 ⊢
      generalize w3.heap.size = h3 at z3 ⊢
      have HRES := Lib.hid (HRN.out HN.out)
      clear HRN HRS HN
      have fq0 := zr.free 0
      have gq0 := zr.cell 0 rfl
      have fq1 := zr.free 1
      have gq1 := zr.cell 1 rfl
      have fq2 := zr.free 2
      have gq2 := zr.cell 2 rfl
      have fq3 := zr.free 3
      have gq3 := zr.cell 3 rfl
      have fq4 := zr.free 4
      have gq4 := zr.cell 4 rfl
      have fq5 := zr.free 5
      have gq5 := zr.cell 5 rfl
      have fq6 := zr.free 6
      have gq6 := zr.cell 6 rfl
      have fq7 := zr.free 7
      have gq7 := zr.cell 7 rfl
      have lq := zr.lt
      go_wp2_with (first | (at_make; refine Stop.un ?_) | (at_builtin; refine Stop.un ?_) | (with_reducible refine Stop.conv 40 9 ?_) | (with_reducible refine Stop.conv 9 40 ?_))
      have RQ := zr.set8 (.int .u8 0) (.int .i64 0) (.string ⟨#[]⟩) (.int .u8 0) (.int .i64 0) (.string ⟨#[]⟩) (.int .i64 0) (.int .i64 0)
      have rq0 := RQ.cell 0 rfl
      have rq1 := RQ.cell 1 rfl
      have rq2 := RQ.cell 2 rfl
      have rq3 := RQ.cell 3 rfl
      have rq4 := RQ.cell 4 rfl
      have rq5 := RQ.cell 5 rfl
      have rq6 := RQ.cell 6 rfl
      have rq7 := RQ.cell 7 rfl
      have rql := RQ.lt
      exact bodyPost_ret (v := .tuple #[.agg #[.int .u8 0, .int .i64 0, .string ⟨#[]⟩, .int .u8 0, .int .i64 0, .string ⟨#[]⟩, .int .i64 0, .int .i64 0], .int .i64 6]) (by simp [results, Try.results24, go_sem, rq0, rq1, rq2, rq3, rq4, rq5, rq6, rq7]; done) rfl ⟨by first | rfl | (rw [HRES.out]; rfl), below_set8 BB _ _ _ _ _ _ _ _  (Nat.le_refl _)⟩
    | some p2 =>
      obtain ⟨⟨k', n', s'⟩, r2⟩ := p2
      obtain ⟨hd2, hin2⟩ := HDR2.out _ _ rfl
      simp only at hin2
      have hm2 := HN2.out
      have hn3b : n3 < n2 := by have := hn3; simp only [tkL] at this; omega
      have hcs3 : Cs w3 a3 (bcells r2) := cs3
      have hn3c : r2.length = n3 := hn3
      clear cs3 hn3 hd2 hm2 HN2 HDR2 ht2
      have HT3 : Hid (takeZ kd l = tailZ kd ⟨k, n, s⟩ ⟨k', n', s'⟩ r2) := Lib.hid HT2.out
      clear HT2
      simp only [tkV, tkE, V.val]
      simp only [Option.isSome, if_true]
      go_upto_region 7 with fail
      have z3 := At.new w3 #[.int .u8 k', .int .i64 n', .string s'] 24
      have bz := (Below.refl w3.heap.size w3).alloc (Nat.le_refl _) (.cells #[.int .u8 k', .int .i64 n', .string s'] 24)
      replace zr := At.mono zr bz
      replace BB := Below.next BB bz
      replace z2 := At.mono z2 bz
      replace hcs3 := Cs.mono hcs3 bz (Nat.le_refl _)
      clear bz
      generalize w3.alloc (.cells #[.int .u8 k', .int .i64 n', .string s'] 24) = y3 at zr BB z2 hcs3 z3 ⊢
      generalize w3.heap.size = h3 at z3 ⊢
      have HW1 := Lib.hid zr.lt
      have HW2 := Lib.hid z2.lt
      have HW3 := Lib.hid z3.lt
      go_wp2_with (first | (at_make; refine Stop.un ?_) | (at_builtin; refine Stop.un ?_) | (with_reducible refine Stop.conv 40 9 ?_) | (with_reducible refine Stop.conv 9 40 ?_))
      refine (newo_any a3 n3 c3 r2 _ hcs3 hn3c (by omega)).mono ?_
      rintro e w5 ⟨g, rfl, hg, hr, bt⟩
      clear hcs3
      replace zr := At.mono zr bt
      replace BB := Below.next BB bt
      replace z2 := At.mono z2 bt
      replace z3 := At.mono z3 bt
      have HT5 := Lib.hid bt.size
      clear bt
      have hgw : w.heap.size < g := Nat.lt_of_lt_of_le HW1.out hg
      have hg2 : h2 < g := Nat.lt_of_lt_of_le HW2.out hg
      have hg3 : h3 < g := Nat.lt_of_lt_of_le HW3.out hg
      generalize y3.heap.size = B3 at hr
      have hg5 := hr.ge.2
      clear HW1 HW2 HW3 HT5 hg
      generalize hT : w5.heap.size = T at hr hg5
      have HI1 := Lib.hid (fun w hr => rinto_any 77 B3 T g r2 false w hr)
      have HI2 := Lib.hid (fun w hr => rinto_any 77 B3 T g (rdRest r2) (rdBad r2) w hr)
      have HEND := Lib.hid (fun w hr => rendo_any 77 B3 T g (rdRest (rdRest r2)) (rdBad r2 || rdBad (rdRest r2)) w hr)
      have hnu := zag_in (rdN_lt r2)
      have hma := zag_in (rdN_lt (rdRest r2))
      have ht4 := HT3.out
      unfold tailZ at ht4
      simp only [Bool.false_or] at HI1
      clear HT3 hn3c
      generalize zag (rdN (rdRest r2)) = ma at HI2 hma ht4
      generalize zag (rdN r2) = nu at HI1 hnu ht4
      generalize (rdBad r2 || rdBad (rdRest r2)) = bb at HI2 HEND ht4
      generalize rdRest (rdRest r2) = r4 at HI2 HEND ht4
      generalize rdRest r2 = r3 at HI1 HI2
      generalize rdBad r2 = b3 at HI1 HI2
      have HT4 := Lib.hid ht4
      clear ht4
      go_upto_region 10 with fail
      go_cut [11] (fun x wx => ∃ h, x = .pointer (some ⟨h, 0, none⟩) ∧ T ≤ h ∧ At wx w.heap.size #[.int .u8 0, .int .i64 0, .string ⟨#[]⟩, .int .u8 0, .int .i64 0, .string ⟨#[]⟩, .int .i64 0, .int .i64 0] 26 ∧ At wx h #[.int .u8 k, .int .i64 n, .string s, .int .u8 k', .int .i64 n', .string s', .int .i64 nu, .int .i64 ma] 26 ∧ Rdr 77 B3 T wx g r4 bb ∧ Below w.heap.size w wx)
      case first =>
        refine mix_startX (T) (some g) 9 rfl (by kernel_rfl) ?_
        intro xq hxq
        have HSZ : T ≤ xq.heap.size := by rw [← hT]; exact hxq.size
        have hz2 := z2.lt
        have hz3 := z3.lt
        rw [hT] at hz2 hz3
        replace zr := At.mono zr hxq
        replace BB := Below.next BB hxq
        replace z2 := At.mono z2 hxq
        replace z3 := At.mono z3 hxq
        replace hr := hr.below hxq
        clear hxq
        have ne2 : some h2 ≠ some g := by simp; omega
        have ne3 : some h3 ≠ some g := by simp; omega
        have x20 := z2.cell 0 rfl
        have x21 := z2.cell 1 rfl
        have x22 := z2.cell 2 rfl
        have x30 := z3.cell 0 rfl
        have x31 := z3.cell 1 rfl
        have x32 := z3.cell 2 rfl
        refine mix_quiet (Keeps.rx (T) (some g)) 0 rfl (by kernel_rfl) rfl ?_
        intro ι U hne hU
        have hcw0 := fun ii => (RX.cell (hU ii) hz2 ne2 x20)
        have hcw1 := fun ii => (RX.cell (hU ii) hz2 ne2 x21)
        have hcw2 := fun ii => (RX.cell (hU ii) hz2 ne2 x22)
        go_big_quiet_op
        clear hU hne hcw0 hcw1 hcw2 U ι
        show wpAnyM _ _ _ _ _ _ _ _ _
        refine mix_quiet (Keeps.rx (T) (some g)) 1 rfl (by kernel_rfl) rfl ?_
        intro ι U hne hU
        have hcw0 := fun ii => (RX.cell (hU ii) hz3 ne3 x30)
        have hcw1 := fun ii => (RX.cell (hU ii) hz3 ne3 x31)
        have hcw2 := fun ii => (RX.cell (hU ii) hz3 ne3 x32)
        go_big_quiet_op
        clear hU hne hcw0 hcw1 hcw2 U ι
        show wpAnyM _ _ _ _ _ _ _ _ _
        refine mix_quiet (Keeps.rx (T) (some g)) 2 rfl (by kernel_rfl) rfl ?_
        intro ι U hne hU
        go_big_quiet_op
        clear hU hne U ι
        show wpAnyM _ _ _ _ _ _ _ _ _
        refine mix_quiet (Keeps.rx (T) (some g)) 4 rfl (by kernel_rfl) rfl ?_
        intro ι U hne hU
        go_big_quiet_op
        clear hU hne U ι
        show wpAnyM _ _ _ _ _ _ _ _ _
        clear z2 z3 ne2 ne3 hz2 hz3 x20 x21 x22 x30 x31 x32
        refine mix_two 3 7 rfl rfl (by kernel_rfl) rfl rfl ?_ ?_
        ·
          go_wp2_with (first | (at_make; refine Stop.un ?_) | (at_builtin; refine Stop.un ?_) | (with_reducible refine Stop.conv 40 9 ?_) | (with_reducible refine Stop.conv 9 40 ?_))
          refine (HI1.out _ hr).mono ?_
          rintro e wc0 ⟨rfl, hrn, hgn⟩
          have hsn := hgn.size
          replace zr := zr.past hgn (by simp; omega)
          replace BB := BB.one hgn (by omega) (Nat.le_refl _)
          go_wp2_with (first | (at_make; refine Stop.un ?_) | (at_builtin; refine Stop.un ?_) | (with_reducible refine Stop.conv 40 9 ?_) | (with_reducible refine Stop.conv 9 40 ?_))
          refine MixPost.mk (RX.grown hgn HSZ (fun k e => .inr e.symm)) ?_
          replace hr := hrn
          replace HSZ := Nat.le_trans HSZ hsn
          clear hrn hgn hsn
          refine mix_two 5 7 rfl rfl (by kernel_rfl) rfl rfl ?_ ?_
          ·
            go_wp2_with (first | (at_make; refine Stop.un ?_) | (at_builtin; refine Stop.un ?_) | (with_reducible refine Stop.conv 40 9 ?_) | (with_reducible refine Stop.conv 9 40 ?_))
            refine (HI2.out _ hr).mono ?_
            rintro e wc1 ⟨rfl, hrn, hgn⟩
            have hsn := hgn.size
            replace zr := zr.past hgn (by simp; omega)
            replace BB := BB.one hgn (by omega) (Nat.le_refl _)
            go_wp2_with (first | (at_make; refine Stop.un ?_) | (at_builtin; refine Stop.un ?_) | (with_reducible refine Stop.conv 40 9 ?_) | (with_reducible refine Stop.conv 9 40 ?_))
            refine MixPost.mk (RX.grown hgn HSZ (fun k e => .inr e.symm)) ?_
            replace hr := hrn
            replace HSZ := Nat.le_trans HSZ hsn
            clear hrn hgn hsn
            refine mix_quiet (Keeps.rx (T) (some g)) 6 rfl (by kernel_rfl) rfl ?_
            intro ι U hne hU
            go_big_quiet_op
            clear hU hne U ι
            show wpAnyM _ _ _ _ _ _ _ _ _
            refine mix_any 7 rfl (by kernel_rfl) rfl ?_
            go_wp2_with (first | (at_make; refine Stop.un ?_) | (at_builtin; refine Stop.un ?_) | (with_reducible refine Stop.conv 40 9 ?_) | (with_reducible refine Stop.conv 9 40 ?_))
            have zx := At.new wc1 #[.int .u8 0, .int .i64 0, .string ⟨#[]⟩, .int .u8 0, .int .i64 0, .string ⟨#[]⟩, .int .i64 0, .int .i64 0] 26
            have bz := (Below.refl wc1.heap.size wc1).alloc (Nat.le_refl _) (.cells #[.int .u8 0, .int .i64 0, .string ⟨#[]⟩, .int .u8 0, .int .i64 0, .string ⟨#[]⟩, .int .i64 0, .int .i64 0] 26)
            replace zr := zr.mono bz
            replace BB := BB.next bz
            replace hr := hr.below bz
            refine MixPost.mk (RX.ext bz HSZ) ?_
            have hTx : T ≤ wc1.heap.size := HSZ
            replace HSZ := Nat.le_trans HSZ bz.size
            clear bz
            generalize wc1.alloc (.cells #[.int .u8 0, .int .i64 0, .string ⟨#[]⟩, .int .u8 0, .int .i64 0, .string ⟨#[]⟩, .int .i64 0, .int .i64 0] 26) = wn at zr BB hr HSZ zx ⊢
            generalize wc1.heap.size = hx at zx hTx ⊢
            refine mix_any 8 rfl (by kernel_rfl) rfl ?_
            have fq0 := zx.free 0
            have gq0 := zx.cell 0 rfl
            have fq1 := zx.free 1
            have gq1 := zx.cell 1 rfl
            have fq2 := zx.free 2
            have gq2 := zx.cell 2 rfl
            have fq3 := zx.free 3
            have gq3 := zx.cell 3 rfl
            have fq4 := zx.free 4
            have gq4 := zx.cell 4 rfl
            have fq5 := zx.free 5
            have gq5 := zx.cell 5 rfl
            have fq6 := zx.free 6
            have gq6 := zx.cell 6 rfl
            have fq7 := zx.free 7
            have gq7 := zx.cell 7 rfl
            have lq := zx.lt
            go_wp2_with (first | (at_make; refine Stop.un ?_) | (at_builtin; refine Stop.un ?_) | (with_reducible refine Stop.conv 40 9 ?_) | (with_reducible refine Stop.conv 9 40 ?_))
            refine MixPost.mk (RX.more (RX.set8 _ _ _ _ _ _ _ _ _  hTx)) ?_
            refine mix_end (by kernel_rfl) ?_
            clear lq fq0 gq0 fq1 gq1 fq2 gq2 fq3 gq3 fq4 gq4 fq5 gq5 fq6 gq6 fq7 gq7
            go_wp2_with (first | (at_make; refine Stop.un ?_) | (at_builtin; refine Stop.un ?_) | (with_reducible refine Stop.conv 40 9 ?_) | (with_reducible refine Stop.conv 9 40 ?_))
            go_meet
            exact ⟨_, rfl, hTx, zr.off8 (.int .u8 k) (.int .i64 n) (.string s) (.int .u8 k') (.int .i64 n') (.string s') (.int .i64 nu) (.int .i64 ma) (by omega), zx.set8 (.int .u8 k) (.int .i64 n) (.string s) (.int .u8 k') (.int .i64 n') (.string s') (.int .i64 nu) (.int .i64 ma), hr.under (RX.set8 _ (.int .u8 k) (.int .i64 n) (.string s) (.int .u8 k') (.int .i64 n') (.string s') (.int .i64 nu) (.int .i64 ma) hTx), below_set8 BB (.int .u8 k) (.int .i64 n) (.string s) (.int .u8 k') (.int .i64 n') (.string s') (.int .i64 nu) (.int .i64 ma) (by omega)⟩
          ·
            go_wp2_with (first | (at_make; refine Stop.un ?_) | (at_builtin; refine Stop.un ?_) | (with_reducible refine Stop.conv 40 9 ?_) | (with_reducible refine Stop.conv 9 40 ?_))
            have zx := At.new wc0 #[.int .u8 0, .int .i64 0, .string ⟨#[]⟩, .int .u8 0, .int .i64 0, .string ⟨#[]⟩, .int .i64 0, .int .i64 0] 26
            have bz := (Below.refl wc0.heap.size wc0).alloc (Nat.le_refl _) (.cells #[.int .u8 0, .int .i64 0, .string ⟨#[]⟩, .int .u8 0, .int .i64 0, .string ⟨#[]⟩, .int .i64 0, .int .i64 0] 26)
            replace zr := zr.mono bz
            replace BB := BB.next bz
            replace hr := hr.below bz
            refine MixPost.mk (RX.ext bz HSZ) ?_
            have hTx : T ≤ wc0.heap.size := HSZ
            replace HSZ := Nat.le_trans HSZ bz.size
            clear bz
            generalize wc0.alloc (.cells #[.int .u8 0, .int .i64 0, .string ⟨#[]⟩, .int .u8 0, .int .i64 0, .string ⟨#[]⟩, .int .i64 0, .int .i64 0] 26) = wn at zr BB hr HSZ zx ⊢
            generalize wc0.heap.size = hx at zx hTx ⊢
            refine mix_any 5 rfl (by kernel_rfl) rfl ?_
            go_wp2_with (first | (at_make; refine Stop.un ?_) | (at_builtin; refine Stop.un ?_) | (with_reducible refine Stop.conv 40 9 ?_) | (with_reducible refine Stop.conv 9 40 ?_))
            refine (HI2.out _ hr).mono ?_
            rintro e wc1 ⟨rfl, hrn, hgn⟩
            have hsn := hgn.size
            replace zr := zr.past hgn (by simp; omega)
            replace BB := BB.one hgn (by omega) (Nat.le_refl _)
            replace zx := zx.past hgn (by simp; omega)
            go_wp2_with (first | (at_make; refine Stop.un ?_) | (at_builtin; refine Stop.un ?_) | (with_reducible refine Stop.conv 40 9 ?_) | (with_reducible refine Stop.conv 9 40 ?_))
            refine MixPost.mk (RX.grown hgn HSZ (fun k e => .inr e.symm)) ?_
            replace hr := hrn
            replace HSZ := Nat.le_trans HSZ hsn
            clear hrn hgn hsn
            refine mix_quiet (Keeps.rx (T) (some g)) 6 rfl (by kernel_rfl) rfl ?_
            intro ι U hne hU
            go_big_quiet_op
            clear hU hne U ι
            show wpAnyM _ _ _ _ _ _ _ _ _
            refine mix_any 8 rfl (by kernel_rfl) rfl ?_
            have fq0 := zx.free 0
            have gq0 := zx.cell 0 rfl
            have fq1 := zx.free 1
            have gq1 := zx.cell 1 rfl
            have fq2 := zx.free 2
            have gq2 := zx.cell 2 rfl
            have fq3 := zx.free 3
            have gq3 := zx.cell 3 rfl
            have fq4 := zx.free 4
            have gq4 := zx.cell 4 rfl
            have fq5 := zx.free 5
            have gq5 := zx.cell 5 rfl
            have fq6 := zx.free 6
            have gq6 := zx.cell 6 rfl
            have fq7 := zx.free 7
            have gq7 := zx.cell 7 rfl
            have lq := zx.lt
            go_wp2_with (first | (at_make; refine Stop.un ?_) | (at_builtin; refine Stop.un ?_) | (with_reducible refine Stop.conv 40 9 ?_) | (with_reducible refine Stop.conv 9 40 ?_))
            refine MixPost.mk (RX.more (RX.set8 _ _ _ _ _ _ _ _ _  hTx)) ?_
            refine mix_end (by kernel_rfl) ?_
            clear lq fq0 gq0 fq1 gq1 fq2 gq2 fq3 gq3 fq4 gq4 fq5 gq5 fq6 gq6 fq7 gq7
            go_wp2_with (first | (at_make; refine Stop.un ?_) | (at_builtin; refine Stop.un ?_) | (with_reducible refine Stop.conv 40 9 ?_) | (with_reducible refine Stop.conv 9 40 ?_))
            go_meet
            exact ⟨_, rfl, hTx, zr.off8 (.int .u8 k) (.int .i64 n) (.string s) (.int .u8 k') (.int .i64 n') (.string s') (.int .i64 nu) (.int .i64 ma) (by omega), zx.set8 (.int .u8 k) (.int .i64 n) (.string s) (.int .u8 k') (.int .i64 n') (.string s') (.int .i64 nu) (.int .i64 ma), hr.under (RX.set8 _ (.int .u8 k) (.int .i64 n) (.string s) (.int .u8 k') (.int .i64 n') (.string s') (.int .i64 nu) (.int .i64 ma) hTx), below_set8 BB (.int .u8 k) (.int .i64 n) (.string s) (.int .u8 k') (.int .i64 n') (.string s') (.int .i64 nu) (.int .i64 ma) (by omega)⟩
        ·
          go_wp2_with (first | (at_make; refine Stop.un ?_) | (at_builtin; refine Stop.un ?_) | (with_reducible refine Stop.conv 40 9 ?_) | (with_reducible refine Stop.conv 9 40 ?_))
          have zx := At.new xq #[.int .u8 0, .int .i64 0, .string ⟨#[]⟩, .int .u8 0, .int .i64 0, .string ⟨#[]⟩, .int .i64 0, .int .i64 0] 26
          have bz := (Below.refl xq.heap.size xq).alloc (Nat.le_refl _) (.cells #[.int .u8 0, .int .i64 0, .string ⟨#[]⟩, .int .u8 0, .int .i64 0, .string ⟨#[]⟩, .int .i64 0, .int .i64 0] 26)
          replace zr := zr.mono bz
          replace BB := BB.next bz
          replace hr := hr.below bz
          refine MixPost.mk (RX.ext bz HSZ) ?_
          have hTx : T ≤ xq.heap.size := HSZ
          replace HSZ := Nat.le_trans HSZ bz.size
          clear bz
          generalize xq.alloc (.cells #[.int .u8 0, .int .i64 0, .string ⟨#[]⟩, .int .u8 0, .int .i64 0, .string ⟨#[]⟩, .int .i64 0, .int .i64 0] 26) = wn at zr BB hr HSZ zx ⊢
          generalize xq.heap.size = hx at zx hTx ⊢
          refine mix_any 3 rfl (by kernel_rfl) rfl ?_
          go_wp2_with (first | (at_make; refine Stop.un ?_) | (at_builtin; refine Stop.un ?_) | (with_reducible refine Stop.conv 40 9 ?_) | (with_reducible refine Stop.conv 9 40 ?_))
          refine (HI1.out _ hr).mono ?_
          rintro e wc0 ⟨rfl, hrn, hgn⟩
          have hsn := hgn.size
          replace zr := zr.past hgn (by simp; omega)
          replace BB := BB.one hgn (by omega) (Nat.le_refl _)
          replace zx := zx.past hgn (by simp; omega)
          go_wp2_with (first | (at_make; refine Stop.un ?_) | (at_builtin; refine Stop.un ?_) | (with_reducible refine Stop.conv 40 9 ?_) | (with_reducible refine Stop.conv 9 40 ?_))
          refine MixPost.mk (RX.grown hgn HSZ (fun k e => .inr e.symm)) ?_
          replace hr := hrn
          replace HSZ := Nat.le_trans HSZ hsn
          clear hrn hgn hsn
          refine mix_any 5 rfl (by kernel_rfl) rfl ?_
          go_wp2_with (first | (at_make; refine Stop.un ?_) | (at_builtin; refine Stop.un ?_) | (with_reducible refine Stop.conv 40 9 ?_) | (with_reducible refine Stop.conv 9 40 ?_))
          refine (HI2.out _ hr).mono ?_
          rintro e wc1 ⟨rfl, hrn, hgn⟩
          have hsn := hgn.size
          replace zr := zr.past hgn (by simp; omega)
          replace BB := BB.one hgn (by omega) (Nat.le_refl _)
          replace zx := zx.past hgn (by simp; omega)
          go_wp2_with (first | (at_make; refine Stop.un ?_) | (at_builtin; refine Stop.un ?_) | (with_reducible refine Stop.conv 40 9 ?_) | (with_reducible refine Stop.conv 9 40 ?_))
          refine MixPost.mk (RX.grown hgn HSZ (fun k e => .inr e.symm)) ?_
          replace hr := hrn
          replace HSZ := Nat.le_trans HSZ hsn
          clear hrn hgn hsn
          refine mix_quiet (Keeps.rx (T) (some g)) 6 rfl (by kernel_rfl) rfl ?_
          intro ι U hne hU
          go_big_quiet_op
          clear hU hne U ι
          show wpAnyM _ _ _ _ _ _ _ _ _
          refine mix_any 8 rfl (by kernel_rfl) rfl ?_
          have fq0 := zx.free 0
          have gq0 := zx.cell 0 rfl
          have fq1 := zx.free 1
          have gq1 := zx.cell 1 rfl
          have fq2 := zx.free 2
          have gq2 := zx.cell 2 rfl
          have fq3 := zx.free 3
          have gq3 := zx.cell 3 rfl
          have fq4 := zx.free 4
          have gq4 := zx.cell 4 rfl
          have fq5 := zx.free 5
          have gq5 := zx.cell 5 rfl
          have fq6 := zx.free 6
          have gq6 := zx.cell 6 rfl
          have fq7 := zx.free 7
          have gq7 := zx.cell 7 rfl
          have lq := zx.lt
          go_wp2_with (first | (at_make; refine Stop.un ?_) | (at_builtin; refine Stop.un ?_) | (with_reducible refine Stop.conv 40 9 ?_) | (with_reducible refine Stop.conv 9 40 ?_))
          refine MixPost.mk (RX.more (RX.set8 _ _ _ _ _ _ _ _ _  hTx)) ?_
          refine mix_end (by kernel_rfl) ?_
          clear lq fq0 gq0 fq1 gq1 fq2 gq2 fq3 gq3 fq4 gq4 fq5 gq5 fq6 gq6 fq7 gq7
          go_wp2_with (first | (at_make; refine Stop.un ?_) | (at_builtin; refine Stop.un ?_) | (with_reducible refine Stop.conv 40 9 ?_) | (with_reducible refine Stop.conv 9 40 ?_))
          go_meet
          exact ⟨_, rfl, hTx, zr.off8 (.int .u8 k) (.int .i64 n) (.string s) (.int .u8 k') (.int .i64 n') (.string s') (.int .i64 nu) (.int .i64 ma) (by omega), zx.set8 (.int .u8 k) (.int .i64 n) (.string s) (.int .u8 k') (.int .i64 n') (.string s') (.int .i64 nu) (.int .i64 ma), hr.under (RX.set8 _ (.int .u8 k) (.int .i64 n) (.string s) (.int .u8 k') (.int .i64 n') (.string s') (.int .i64 nu) (.int .i64 ma) hTx), below_set8 BB (.int .u8 k) (.int .i64 n) (.string s) (.int .u8 k') (.int .i64 n') (.string s') (.int .i64 nu) (.int .i64 ma) (by omega)⟩
      case rest =>
        obtain ⟨hx, rfl, hTx, zr, zx, hr, BB⟩ := hcut
        clear z2 z3 HI1 HI2
        have HRT := Lib.hid (fun w => zright_any kd ⟨⟨k, n, s⟩, ⟨k', n', s'⟩, nu, ma⟩ w ⟨hma, hnu⟩)
        simp only [Zn.val] at HRT
        generalize rightZ kd ⟨⟨k, n, s⟩, ⟨k', n', s'⟩, nu, ma⟩ = R at HRT HT4
        rcases end_two r4 bb with e | e
        ·
          rw [e] at HEND HT4
          go_wp2_with (first | (at_make; refine Stop.un ?_) | (at_builtin; refine Stop.un ?_) | (with_reducible refine Stop.conv 40 9 ?_) | (with_reducible refine Stop.conv 9 40 ?_))
          refine (HEND.out _ hr).mono ?_
          rintro e w7 ⟨rfl, rfl⟩
          clear hr HEND
          have x0 := zx.cell 0 rfl
          have x1 := zx.cell 1 rfl
          have x2 := zx.cell 2 rfl
          have x3 := zx.cell 3 rfl
          have x4 := zx.cell 4 rfl
          have x5 := zx.cell 5 rfl
          have x6 := zx.cell 6 rfl
          have x7 := zx.cell 7 rfl
          have xl := zx.lt
          go_wp2_with (first | (at_make; refine Stop.un ?_) | (at_builtin; refine Stop.un ?_) | (with_reducible refine Stop.conv 40 9 ?_) | (with_reducible refine Stop.conv 9 40 ?_))
          refine (HRT.out _).mono ?_
          rintro e w8 ⟨rfl, bt⟩
          clear xl HRT x0 x1 x2 x3 x4 x5 x6 x7
          replace zr := At.mono zr bt
          replace zx := At.mono zx bt
          replace BB := Below.next BB bt
          clear bt
          cases R with
          | false =>
            have HN : Hid (takeZ kd l = none) := Lib.hid (by rw [HT4.out, if_neg (by simp)])
            clear HT4 zx
            have HRES := Lib.hid (HRN.out HN.out)
            clear HRN HRS HN
            have fq0 := zr.free 0
            have gq0 := zr.cell 0 rfl
            have fq1 := zr.free 1
            have gq1 := zr.cell 1 rfl
            have fq2 := zr.free 2
            have gq2 := zr.cell 2 rfl
            have fq3 := zr.free 3
            have gq3 := zr.cell 3 rfl
            have fq4 := zr.free 4
            have gq4 := zr.cell 4 rfl
            have fq5 := zr.free 5
            have gq5 := zr.cell 5 rfl
            have fq6 := zr.free 6
            have gq6 := zr.cell 6 rfl
            have fq7 := zr.free 7
            have gq7 := zr.cell 7 rfl
            have lq := zr.lt
            go_wp2_with (first | (at_make; refine Stop.un ?_) | (at_builtin; refine Stop.un ?_) | (with_reducible refine Stop.conv 40 9 ?_) | (with_reducible refine Stop.conv 9 40 ?_))
            have RQ := zr.set8 (.int .u8 0) (.int .i64 0) (.string ⟨#[]⟩) (.int .u8 0) (.int .i64 0) (.string ⟨#[]⟩) (.int .i64 0) (.int .i64 0)
            have rq0 := RQ.cell 0 rfl
            have rq1 := RQ.cell 1 rfl
            have rq2 := RQ.cell 2 rfl
            have rq3 := RQ.cell 3 rfl
            have rq4 := RQ.cell 4 rfl
            have rq5 := RQ.cell 5 rfl
            have rq6 := RQ.cell 6 rfl
            have rq7 := RQ.cell 7 rfl
            have rql := RQ.lt
            exact bodyPost_ret (v := .tuple #[.agg #[.int .u8 0, .int .i64 0, .string ⟨#[]⟩, .int .u8 0, .int .i64 0, .string ⟨#[]⟩, .int .i64 0, .int .i64 0], .int .i64 6]) (by simp [results, Try.results24, go_sem, rq0, rq1, rq2, rq3, rq4, rq5, rq6, rq7]; done) rfl ⟨by first | rfl | (rw [HRES.out]; rfl), below_set8 BB _ _ _ _ _ _ _ _  (Nat.le_refl _)⟩
          | true =>
            have HRES := Lib.hid (HRS.out _ (by rw [HT4.out, if_pos (by simp)]))
            clear HT4 HRN HRS
            have x0 := zx.cell 0 rfl
            have x1 := zx.cell 1 rfl
            have x2 := zx.cell 2 rfl
            have x3 := zx.cell 3 rfl
            have x4 := zx.cell 4 rfl
            have x5 := zx.cell 5 rfl
            have x6 := zx.cell 6 rfl
            have x7 := zx.cell 7 rfl
            have xl := zx.lt
            have fq0 := zr.free 0
            have gq0 := zr.cell 0 rfl
            have fq1 := zr.free 1
            have gq1 := zr.cell 1 rfl
            have fq2 := zr.free 2
            have gq2 := zr.cell 2 rfl
            have fq3 := zr.free 3
            have gq3 := zr.cell 3 rfl
            have fq4 := zr.free 4
            have gq4 := zr.cell 4 rfl
            have fq5 := zr.free 5
            have gq5 := zr.cell 5 rfl
            have fq6 := zr.free 6
            have gq6 := zr.cell 6 rfl
            have fq7 := zr.free 7
            have gq7 := zr.cell 7 rfl
            have lq := zr.lt
            go_wp2_with (first | (at_make; refine Stop.un ?_) | (at_builtin; refine Stop.un ?_) | (with_reducible refine Stop.conv 40 9 ?_) | (with_reducible refine Stop.conv 9 40 ?_))
            have RQ := zr.set8 (.int .u8 k) (.int .i64 n) (.string s) (.int .u8 k') (.int .i64 n') (.string s') (.int .i64 nu) (.int .i64 ma)
            have rq0 := RQ.cell 0 rfl
            have rq1 := RQ.cell 1 rfl
            have rq2 := RQ.cell 2 rfl
            have rq3 := RQ.cell 3 rfl
            have rq4 := RQ.cell 4 rfl
            have rq5 := RQ.cell 5 rfl
            have rq6 := RQ.cell 6 rfl
            have rq7 := RQ.cell 7 rfl
            have rql := RQ.lt
            exact bodyPost_ret (v := .tuple #[.agg #[.int .u8 k, .int .i64 n, .string s, .int .u8 k', .int .i64 n', .string s', .int .i64 nu, .int .i64 ma], .int .i64 0]) (by simp [results, Try.results24, go_sem, rq0, rq1, rq2, rq3, rq4, rq5, rq6, rq7]; done) rfl ⟨by first | rfl | (rw [HRES.out]; rfl), below_set8 BB _ _ _ _ _ _ _ _  (Nat.le_refl _)⟩
        ·
          rw [e] at HEND HT4
          go_wp2_with (first | (at_make; refine Stop.un ?_) | (at_builtin; refine Stop.un ?_) | (with_reducible refine Stop.conv 40 9 ?_) | (with_reducible refine Stop.conv 9 40 ?_))
          refine (HEND.out _ hr).mono ?_
          rintro e w7 ⟨rfl, rfl⟩
          clear hr HEND HRT zx
          have HN : Hid (takeZ kd l = none) := Lib.hid (by rw [HT4.out, if_neg (by simp)])
          clear HT4
          have HRES := Lib.hid (HRN.out HN.out)
          clear HRN HRS HN
          have fq0 := zr.free 0
          have gq0 := zr.cell 0 rfl
          have fq1 := zr.free 1
          have gq1 := zr.cell 1 rfl
          have fq2 := zr.free 2
          have gq2 := zr.cell 2 rfl
          have fq3 := zr.free 3
          have gq3 := zr.cell 3 rfl
          have fq4 := zr.free 4
          have gq4 := zr.cell 4 rfl
          have fq5 := zr.free 5
          have gq5 := zr.cell 5 rfl
          have fq6 := zr.free 6
          have gq6 := zr.cell 6 rfl
          have fq7 := zr.free 7
          have gq7 := zr.cell 7 rfl
          have lq := zr.lt
          go_wp2_with (first | (at_make; refine Stop.un ?_) | (at_builtin; refine Stop.un ?_) | (with_reducible refine Stop.conv 40 9 ?_) | (with_reducible refine Stop.conv 9 40 ?_))
          have RQ := zr.set8 (.int .u8 0) (.int .i64 0) (.string ⟨#[]⟩) (.int .u8 0) (.int .i64 0) (.string ⟨#[]⟩) (.int .i64 0) (.int .i64 0)
          have rq0 := RQ.cell 0 rfl
          have rq1 := RQ.cell 1 rfl
          have rq2 := RQ.cell 2 rfl
          have rq3 := RQ.cell 3 rfl
          have rq4 := RQ.cell 4 rfl
          have rq5 := RQ.cell 5 rfl
          have rq6 := RQ.cell 6 rfl
          have rq7 := RQ.cell 7 rfl
          have rql := RQ.lt
          exact bodyPost_ret (v := .tuple #[.agg #[.int .u8 0, .int .i64 0, .string ⟨#[]⟩, .int .u8 0, .int .i64 0, .string ⟨#[]⟩, .int .i64 0, .int .i64 0], .int .i64 6]) (by simp [results, Try.results24, go_sem, rq0, rq1, rq2, rq3, rq4, rq5, rq6, rq7]; done) rfl ⟨by first | rfl | (rw [HRES.out]; rfl), below_set8 BB _ _ _ _ _ _ _ _  (Nat.le_refl _)⟩
theorem ztake_any (kd : Int) (ao : Option Addr) (m cap : Nat) (l : List UInt8) (w : World) (hc : Cs w ao (bcells l)) (hm : l.length = m) (hl : m ≤ 4000000000) (hlc : m ≤ cap) :
    Calls Try.prog 24 #[.int .u8 kd, .slice ao m cap] w (fun e w' => e = .returned (.tuple #[(tzZ kd l).val, .int .i64 (tzE kd l)]) ∧ Below w.heap.size w w') := by
  cases hk : kindB kd with
  | true => exact ztake_ok kd ao m cap l w hc hm hl hlc hk
  | false => exact ztake_bad kd ao m cap l w hk
end Go.Proofs.Ytdpmaocbfmgmlaa
