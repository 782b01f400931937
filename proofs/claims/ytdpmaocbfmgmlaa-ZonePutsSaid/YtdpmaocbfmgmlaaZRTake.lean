/- What is known by bytes: what the reference returns; and its bytes. -/
import Derived.Test.YtdpmaocbfmgmlaaZTake
import Derived.Test.YtdpmaocbfmgmlaaZPut
import Derived.Test.YtdpmaocbfmgmlaaCRPut
import Derived.Test.YtdpmaocbfmgmlaaZRRight
import Derived.Test.YtdpmaocbfmgmlaaCRTake
set_option linter.unusedVariables false
set_option linter.unusedSimpArgs false
namespace Go.Proofs.Ytdpmaocbfmgmlaa
open Go.RowKit
theorem rd_spec {r : List UInt8} (h : rdBad r = false) : r = numB (rdN r) ++ rdRest r := by
  unfold rdBad at h
  cases ht : tnum r with
  | none => rw [ht] at h; cases h
  | some p => obtain ⟨n, t⟩ := p; obtain ⟨e1, e2, _⟩ := rd_of_some ht; rw [e1, e2]; exact tnum_spec ht
theorem end_zero {r : List UInt8} {bad : Bool} (h : endE r bad = 0) : r = [] ∧ bad = false := by
  unfold endE at h
  cases bad <;> cases r <;> simp_all
theorem rdT_spec {r : List UInt8} (h : rdTBad r = false) : r = textB (rdT r) ++ rdTRest r ∧ (rdT r).length ≤ 1024 := by
  unfold rdTBad at h
  rw [Bool.or_eq_false_iff] at h
  obtain ⟨h1, h2⟩ := h
  cases ht : rdText r with
  | none => rw [ht] at h2; cases h2
  | some s =>
    have e1 : rdT r = s := by simp [rdT, ht]
    have e2 : rdTRest r = (rdRest r).drop (rdN r) := by simp [rdTRest, ht]
    unfold rdText at ht
    split at ht
    · cases ht
    · next hn =>
      have hs : (rdRest r).take (rdN r) = s := Option.some.inj ht
      have hl : s.length = rdN r := by rw [← hs, List.length_take]; omega
      rw [e1, e2]
      refine ⟨?_, by omega⟩
      unfold textB
      rw [hl, List.append_assoc, ← hs, List.take_append_drop]
      exact rd_spec h1
theorem takeK_big {c : Nat} {r : List UInt8} (h1 : ¬ (c = 1 ∨ c = 2)) (h2 : ¬ c = 3) : takeK c r = (⟨c, 0, ⟨#[]⟩⟩, r, false) := by unfold takeK; rw [if_neg h1, if_neg h2]
theorem putV_right {v : V} (h : rightB v = true) : putV v = UInt8.ofNat v.k.toNat :: tailV v := by unfold putV; rw [canon_right h]
theorem takeV_spec {l : List UInt8} {v : V} {r : List UInt8} (h : takeV l = some (v, r)) : l = putV v ++ r ∧ rightB v = true := by
  match l, h with
  | c :: s, h =>
    simp only [takeV] at h
    split at h
    · cases h
    · next hb =>
      simp only [Option.some.injEq, Prod.mk.injEq] at h
      obtain ⟨h1, h2⟩ := h
      simp only [Bool.or_eq_true, Bool.not_eq_true', not_or, Bool.not_eq_true, Bool.not_eq_false] at hb
      obtain ⟨hb1, hb2⟩ := hb
      rw [← h1, ← h2, putV_right hb2]
      refine ⟨?_, hb2⟩
      have hc := c.toNat_lt
      have hcc : ∀ k : Int, k = (c.toNat : Int) → UInt8.ofNat k.toNat = c := fun k hk => by subst hk; simp
      by_cases h12 : c.toNat = 1 ∨ c.toNat = 2
      · have e : takeK c.toNat s = (⟨c.toNat, zag (rdN s), ⟨#[]⟩⟩, rdRest s, rdBad s) := by unfold takeK; rw [if_pos h12]
        rw [e] at hb1 ⊢
        simp only at hb1 ⊢
        rw [hcc _ rfl]
        have ht : tailV ⟨(c.toNat : Int), zag (rdN s), ⟨#[]⟩⟩ = numB (rdN s) := by
          unfold tailV
          rw [if_pos (by simp only; omega), intB, zig_zag]
        rw [ht, List.cons_append]
        congr 1
        exact rd_spec hb1
      · by_cases h3 : c.toNat = 3
        · have e : takeK c.toNat s = (⟨3, 0, strOf (rdT s)⟩, rdTRest s, rdTBad s) := by unfold takeK; rw [if_neg h12, if_pos h3]
          rw [e] at hb1 ⊢
          simp only at hb1 ⊢
          rw [hcc 3 (by omega)]
          have ht : tailV ⟨3, 0, strOf (rdT s)⟩ = textB (rdT s) := by
            unfold tailV
            rw [if_neg (by simp), if_pos rfl]
            rfl
          rw [ht, List.cons_append]
          congr 1
          exact (rdT_spec hb1).1
        · have e := takeK_big (r := s) h12 h3
          rw [e] at hb2 ⊢
          simp only at hb2 ⊢
          rw [hcc _ rfl]
          have ht : tailV ⟨(c.toNat : Int), 0, ⟨#[]⟩⟩ = [] := by
            unfold tailV
            rw [if_neg (by simp only; omega), if_neg (by simp only; omega)]
          rw [ht]
          rfl
theorem takeZ_spec {k : Int} {b : List UInt8} {z : Zn} (h : takeZ k b = some z) : putZ z = b := by
  unfold takeZ at h
  split at h
  · cases h
  · next lo r1 h1 =>
    split at h
    · cases h
    · next hi r2 h2 =>
      unfold tailZ at h
      split at h
      · next hc =>
        obtain ⟨e1, e2⟩ := end_zero hc.1
        rw [Bool.or_eq_false_iff] at e2
        cases h
        have g1 := (takeV_spec h1).1
        have g2 := (takeV_spec h2).1
        have g3 := rd_spec e2.1
        have g4 := rd_spec e2.2
        rw [e1, List.append_nil] at g4
        unfold putZ
        simp only
        rw [intB, intB, zig_zag, zig_zag, List.append_assoc, List.append_assoc, ← g4, ← g3, ← g2, ← g1]
      · cases h
theorem takeZ_in {k : Int} {b : List UInt8} {z : Zn} (h : takeZ k b = some z) : InR z.lo.n ∧ InR z.hi.n ∧ InR z.nulls ∧ InR z.many := by
  unfold takeZ at h
  split at h
  · cases h
  · next lo r1 h1 =>
    split at h
    · cases h
    · next hi r2 h2 =>
      unfold tailZ at h
      split at h
      · cases h
        exact ⟨takeV_in h1, takeV_in h2, zag_in (rdN_lt _), zag_in (rdN_lt _)⟩
      · cases h
set_option maxRecDepth 100000 in
set_option maxHeartbeats 8000000 in
theorem rzput_any (z : Zn) (w : World) (h1 : InR z.lo.n) (h2 : InR z.hi.n) (h3 : InR z.nulls) (h4 : InR z.many) : Calls Try.prog 29 #[z.val] w (RetB w (putZ z)) := by
  have HP1 := Lib.hid (fun w => rput_any none 0 0 [] z.lo w (Cs.nil _ _) rfl (by omega) h1)
  have HP2 := Lib.hid (fun (ao : Option Addr) (m cap : Nat) w hc hm hl => rput_any ao m cap (putV z.lo) z.hi w hc hm hl h2)
  have HI1 := Lib.hid (fun (ao : Option Addr) (m cap : Nat) w hc hm hl => rint_any ao m cap (putV z.lo ++ putV z.hi) z.nulls w hc hm hl h3.1 h3.2)
  have HI2 := Lib.hid (fun (ao : Option Addr) (m cap : Nat) w hc hm hl => rint_any ao m cap (putV z.lo ++ putV z.hi ++ intB z.nulls) z.many w hc hm hl h4.1 h4.2)
  have HL1 := Lib.hid (putV_le z.lo)
  have HL2 := Lib.hid (putV_le z.hi)
  have HL3 := Lib.hid (show (intB z.nulls).length ≤ 9 from numB_le _)
  rw [show putZ z = putV z.lo ++ putV z.hi ++ intB z.nulls ++ intB z.many from rfl]
  simp only [List.nil_append] at HP1
  generalize putV z.lo = pl at HP1 HP2 HI1 HI2 HL1 ⊢
  generalize putV z.hi = ph at HP2 HI1 HI2 HL2 ⊢
  generalize intB z.nulls = pn at HI1 HI2 HL3 ⊢
  generalize intB z.many = pm at HI2 ⊢
  obtain ⟨⟨k, n, s⟩, ⟨k', n', s'⟩, nu, ma⟩ := z
  simp only [V.val] at HP1 HP2 HI1 HI2
  simp only [Zn.val]
  clear h1 h2 h3 h4
  go_enter Try.func29, Try.ntmps29
  go_upto_region 1 with fail
  have z1 : At (w.alloc (.cells #[.int .u8 k, .int .i64 n, .string s, .int .u8 k', .int .i64 n', .string s', .int .i64 nu, .int .i64 ma] 26)) (w.heap.size) #[.int .u8 k, .int .i64 n, .string s, .int .u8 k', .int .i64 n', .string s', .int .i64 nu, .int .i64 ma] 26 := by simpa only [World.size_alloc, Nat.add_assoc, Nat.reduceAdd] using At.new w #[.int .u8 k, .int .i64 n, .string s, .int .u8 k', .int .i64 n', .string s', .int .i64 nu, .int .i64 ma] 26
  have BB : Below w.heap.size w (w.alloc (.cells #[.int .u8 k, .int .i64 n, .string s, .int .u8 k', .int .i64 n', .string s', .int .i64 nu, .int .i64 ma] 26)) := Below.alloc (Below.refl w.heap.size w) (by (try simp only [World.size_alloc]) <;> omega) (.cells #[.int .u8 k, .int .i64 n, .string s, .int .u8 k', .int .i64 n', .string s', .int .i64 nu, .int .i64 ma] 26)
  generalize w.alloc (.cells #[.int .u8 k, .int .i64 n, .string s, .int .u8 k', .int .i64 n', .string s', .int .i64 nu, .int .i64 ma] 26) = wx at z1 BB ⊢
  have x0 := z1.cell 0 rfl
  have x1 := z1.cell 1 rfl
  have x2 := z1.cell 2 rfl
  have x3 := z1.cell 3 rfl
  have x4 := z1.cell 4 rfl
  have x5 := z1.cell 5 rfl
  have x6 := z1.cell 6 rfl
  have x7 := z1.cell 7 rfl
  have xl := z1.lt
  go_wp2_with (first | (at_make; refine Stop.un ?_) | (at_builtin; refine Stop.un ?_) | (with_reducible refine Stop.conv 40 9 ?_) | (with_reducible refine Stop.conv 9 40 ?_))
  refine (HP1.out _).mono ?_
  rintro e w1 ⟨a1, n1, c1, h1, rfl, o1⟩
  clear xl x0 x1 x2 x3 x4 x5 x6 x7
  have bt := Own.below o1
  have HN1 := Lib.hid h1
  have cs1 := Own.cs o1
  have hl1 : n1 ≤ 3000 := by have q1 := HL1.out; have q2 := HL2.out; have q3 := HL3.out; (try simp only [List.length_append] at h1); omega
  replace z1 := At.mono z1 bt
  replace BB := Below.next BB bt
  clear bt h1 o1
  have x0 := z1.cell 0 rfl
  have x1 := z1.cell 1 rfl
  have x2 := z1.cell 2 rfl
  have x3 := z1.cell 3 rfl
  have x4 := z1.cell 4 rfl
  have x5 := z1.cell 5 rfl
  have x6 := z1.cell 6 rfl
  have x7 := z1.cell 7 rfl
  have xl := z1.lt
  go_wp2_with (first | (at_make; refine Stop.un ?_) | (at_builtin; refine Stop.un ?_) | (with_reducible refine Stop.conv 40 9 ?_) | (with_reducible refine Stop.conv 9 40 ?_))
  refine (HP2.out a1 n1 c1 _ cs1 HN1.out (by omega)).mono ?_
  rintro e w2 ⟨a2, n2, c2, h2, rfl, o2⟩
  clear xl x0 x1 x2 x3 x4 x5 x6 x7
  have bt := Own.below o2
  have HN2 := Lib.hid h2
  have cs2 := Own.cs o2
  have hl2 : n2 ≤ 3000 := by have q1 := HL1.out; have q2 := HL2.out; have q3 := HL3.out; (try simp only [List.length_append] at h2); omega
  replace z1 := At.mono z1 bt
  replace BB := Below.next BB bt
  clear bt h2 o2 cs1
  have x0 := z1.cell 0 rfl
  have x1 := z1.cell 1 rfl
  have x2 := z1.cell 2 rfl
  have x3 := z1.cell 3 rfl
  have x4 := z1.cell 4 rfl
  have x5 := z1.cell 5 rfl
  have x6 := z1.cell 6 rfl
  have x7 := z1.cell 7 rfl
  have xl := z1.lt
  go_wp2_with (first | (at_make; refine Stop.un ?_) | (at_builtin; refine Stop.un ?_) | (with_reducible refine Stop.conv 40 9 ?_) | (with_reducible refine Stop.conv 9 40 ?_))
  refine (HI1.out a2 n2 c2 _ cs2 HN2.out (by omega)).mono ?_
  rintro e w3 ⟨a3, n3, c3, h3, rfl, o3⟩
  clear xl x0 x1 x2 x3 x4 x5 x6 x7
  have bt := Own.below o3
  have HN3 := Lib.hid h3
  have cs3 := Own.cs o3
  have hl3 : n3 ≤ 3000 := by have q1 := HL1.out; have q2 := HL2.out; have q3 := HL3.out; (try simp only [List.length_append] at h3); omega
  replace z1 := At.mono z1 bt
  replace BB := Below.next BB bt
  clear bt h3 o3 cs2
  have x0 := z1.cell 0 rfl
  have x1 := z1.cell 1 rfl
  have x2 := z1.cell 2 rfl
  have x3 := z1.cell 3 rfl
  have x4 := z1.cell 4 rfl
  have x5 := z1.cell 5 rfl
  have x6 := z1.cell 6 rfl
  have x7 := z1.cell 7 rfl
  have xl := z1.lt
  go_wp2_with (first | (at_make; refine Stop.un ?_) | (at_builtin; refine Stop.un ?_) | (with_reducible refine Stop.conv 40 9 ?_) | (with_reducible refine Stop.conv 9 40 ?_))
  refine (HI2.out a3 n3 c3 _ cs3 HN3.out (by omega)).mono ?_
  rintro e w4 ⟨a4, n4, c4, h4, rfl, o4⟩
  clear xl x0 x1 x2 x3 x4 x5 x6 x7
  have bt := Own.below o4
  have HN4 := Lib.hid h4
  have cs4 := Own.cs o4
  have OF := Own.up o4 BB
  replace z1 := At.mono z1 bt
  replace BB := Below.next BB bt
  clear bt h4 o4 cs3
  go_wp2_with (first | (at_make; refine Stop.un ?_) | (at_builtin; refine Stop.un ?_) | (with_reducible refine Stop.conv 40 9 ?_) | (with_reducible refine Stop.conv 9 40 ?_))
  go_ret
  exact ⟨_, _, _, HN4.out, rfl, OF⟩
set_option maxRecDepth 100000 in
set_option maxHeartbeats 8000000 in
theorem rztake_bad (kd : Int) (ao : Option Addr) (m cap : Nat) (l : List UInt8) (w : World) (hk : kindB kd = false) :
    Calls Try.prog 25 #[.int .u8 kd, .slice ao m cap] w (fun e w' => e = .returned (.tuple #[(tzZ kd l).val, .int .i64 (tzE kd l)]) ∧ Below w.heap.size w w') := by
  have HRES : Hid ((Value.tuple #[(tzZ kd l).val, .int .i64 (tzE kd l)]) = .tuple #[Zn.zero.val, .int .i64 1]) := Lib.hid (by unfold tzZ tzE; rw [takeZ_bad hk, hk]; rfl)
  go_enter Try.func25, Try.ntmps25
  go_upto_region 1 with fail
  have zr : At (w.alloc (.cells #[.int .u8 0, .int .i64 0, .string ⟨#[]⟩, .int .u8 0, .int .i64 0, .string ⟨#[]⟩, .int .i64 0, .int .i64 0] 26)) (w.heap.size) #[.int .u8 0, .int .i64 0, .string ⟨#[]⟩, .int .u8 0, .int .i64 0, .string ⟨#[]⟩, .int .i64 0, .int .i64 0] 26 := by simpa only [World.size_alloc, Nat.add_assoc, Nat.reduceAdd] using At.new w #[.int .u8 0, .int .i64 0, .string ⟨#[]⟩, .int .u8 0, .int .i64 0, .string ⟨#[]⟩, .int .i64 0, .int .i64 0] 26
  have BB : Below w.heap.size w (w.alloc (.cells #[.int .u8 0, .int .i64 0, .string ⟨#[]⟩, .int .u8 0, .int .i64 0, .string ⟨#[]⟩, .int .i64 0, .int .i64 0] 26)) := Below.alloc (Below.refl w.heap.size w) (by (try simp only [World.size_alloc]) <;> omega) (.cells #[.int .u8 0, .int .i64 0, .string ⟨#[]⟩, .int .u8 0, .int .i64 0, .string ⟨#[]⟩, .int .i64 0, .int .i64 0] 26)
  generalize w.alloc (.cells #[.int .u8 0, .int .i64 0, .string ⟨#[]⟩, .int .u8 0, .int .i64 0, .string ⟨#[]⟩, .int .i64 0, .int .i64 0] 26) = wx at zr BB ⊢
  have HW0 := Lib.hid zr.lt
  go_wp2_with (first | (at_make; refine Stop.un ?_) | (at_builtin; refine Stop.un ?_) | (with_reducible refine Stop.conv 40 9 ?_) | (with_reducible refine Stop.conv 9 40 ?_))
  refine (rzkind_any kd _).mono ?_
  rintro e w1 ⟨rfl, rfl⟩
  rw [hk]
  clear hk
  have fq0 := zr.free 0
  have gq0 := zr.cell 0 rfl
  have fq1 := zr.free 1
  have gq1 := zr.cell 1 rfl
  have fq2 := zr.free 2
  have gq2 := zr.cell 2 rfl
  have fq3 := zr.free 3
  have gq3 := zr.cell 3 rfl
  have fq4 := zr.free 4
  have gq4 := zr.cell 4 rfl
  have fq5 := zr.free 5
  have gq5 := zr.cell 5 rfl
  have fq6 := zr.free 6
  have gq6 := zr.cell 6 rfl
  have fq7 := zr.free 7
  have gq7 := zr.cell 7 rfl
  have lq := zr.lt
  go_wp2_with (first | (at_make; refine Stop.un ?_) | (at_builtin; refine Stop.un ?_) | (with_reducible refine Stop.conv 40 9 ?_) | (with_reducible refine Stop.conv 9 40 ?_))
  have RQ := zr.set8 (.int .u8 0) (.int .i64 0) (.string ⟨#[]⟩) (.int .u8 0) (.int .i64 0) (.string ⟨#[]⟩) (.int .i64 0) (.int .i64 0)
  have rq0 := RQ.cell 0 rfl
  have rq1 := RQ.cell 1 rfl
  have rq2 := RQ.cell 2 rfl
  have rq3 := RQ.cell 3 rfl
  have rq4 := RQ.cell 4 rfl
  have rq5 := RQ.cell 5 rfl
  have rq6 := RQ.cell 6 rfl
  have rq7 := RQ.cell 7 rfl
  have rql := RQ.lt
  exact bodyPost_ret (v := .tuple #[.agg #[.int .u8 0, .int .i64 0, .string ⟨#[]⟩, .int .u8 0, .int .i64 0, .string ⟨#[]⟩, .int .i64 0, .int .i64 0], .int .i64 1]) (by simp [results, Try.results25, go_sem, rq0, rq1, rq2, rq3, rq4, rq5, rq6, rq7]; done) rfl ⟨by first | rfl | (rw [HRES.out]; rfl), below_set8 BB _ _ _ _ _ _ _ _  (Nat.le_refl _)⟩
set_option maxRecDepth 100000 in
set_option maxHeartbeats 16000000 in
theorem rztake_ok (kd : Int) (ao : Option Addr) (m cap : Nat) (l : List UInt8) (w : World) (hc : Cs w ao (bcells l)) (hm : l.length = m) (hl : m ≤ 4000000000) (hlc : m ≤ cap) (hk : kindB kd = true) :
    Calls Try.prog 25 #[.int .u8 kd, .slice ao m cap] w (fun e w' => e = .returned (.tuple #[(tzZ kd l).val, .int .i64 (tzE kd l)]) ∧ Below w.heap.size w w') := by
  have HT : Hid (takeZ kd l = match takeV l with | none => none | some (lo, r1) => match takeV r1 with | none => none | some (hi, r2) => tailZ kd lo hi r2) := Lib.hid rfl
  have HTK1 := Lib.hid (fun w hc => rtake_any ao m cap l w hc hm (by omega) hlc)
  have HDR1 := Lib.hid (fun v r (h : takeV l = some (v, r)) => And.intro (takeV_drop h) (takeV_in h))
  have HRN : Hid (takeZ kd l = none → (Value.tuple #[(tzZ kd l).val, .int .i64 (tzE kd l)]) = .tuple #[Zn.zero.val, .int .i64 6]) := Lib.hid (fun h => by unfold tzZ tzE; rw [h, hk]; rfl)
  have HRS : Hid (∀ z, takeZ kd l = some z → (Value.tuple #[(tzZ kd l).val, .int .i64 (tzE kd l)]) = .tuple #[z.val, .int .i64 0]) := Lib.hid (fun z h => by unfold tzZ tzE; rw [h, hk]; rfl)
  have HM := Lib.hid hm
  clear hm
  go_enter Try.func25, Try.ntmps25
  go_upto_region 1 with fail
  have zr : At (w.alloc (.cells #[.int .u8 0, .int .i64 0, .string ⟨#[]⟩, .int .u8 0, .int .i64 0, .string ⟨#[]⟩, .int .i64 0, .int .i64 0] 26)) (w.heap.size) #[.int .u8 0, .int .i64 0, .string ⟨#[]⟩, .int .u8 0, .int .i64 0, .string ⟨#[]⟩, .int .i64 0, .int .i64 0] 26 := by simpa only [World.size_alloc, Nat.add_assoc, Nat.reduceAdd] using At.new w #[.int .u8 0, .int .i64 0, .string ⟨#[]⟩, .int .u8 0, .int .i64 0, .string ⟨#[]⟩, .int .i64 0, .int .i64 0] 26
  have BB : Below w.heap.size w (w.alloc (.cells #[.int .u8 0, .int .i64 0, .string ⟨#[]⟩, .int .u8 0, .int .i64 0, .string ⟨#[]⟩, .int .i64 0, .int .i64 0] 26)) := Below.alloc (Below.refl w.heap.size w) (by (try simp only [World.size_alloc]) <;> omega) (.cells #[.int .u8 0, .int .i64 0, .string ⟨#[]⟩, .int .u8 0, .int .i64 0, .string ⟨#[]⟩, .int .i64 0, .int .i64 0] 26)
  generalize w.alloc (.cells #[.int .u8 0, .int .i64 0, .string ⟨#[]⟩, .int .u8 0, .int .i64 0, .string ⟨#[]⟩, .int .i64 0, .int .i64 0] 26) = wx at zr BB ⊢
  have HW0 := Lib.hid zr.lt
  go_wp2_with (first | (at_make; refine Stop.un ?_) | (at_builtin; refine Stop.un ?_) | (with_reducible refine Stop.conv 40 9 ?_) | (with_reducible refine Stop.conv 9 40 ?_))
  refine (rzkind_any kd _).mono ?_
  rintro e w1 ⟨rfl, rfl⟩
  rw [hk]
  clear hk
  have hc0 := hc
  have HM0 := HM
  replace hc := hc.mono BB (Nat.le_refl _)
  generalize ht1 : takeV l = o1 at HTK1 HDR1 HT
  go_wp2_with (first | (at_make; refine Stop.un ?_) | (at_builtin; refine Stop.un ?_) | (with_reducible refine Stop.conv 40 9 ?_) | (with_reducible refine Stop.conv 9 40 ?_))
  refine (HTK1.out _ hc).mono ?_
  rintro e w2 ⟨a2, n2, c2, hn2, le2, mx2, rfl, cs2, bt, ge2⟩
  have HGE2 := Lib.hid ge2
  clear ge2
  replace zr := At.mono zr bt
  replace BB := Below.next BB bt
  clear bt
  clear hc HTK1
  cases o1 with
  | none =>
    have HN : Hid (takeZ kd l = none) := Lib.hid HT.out
    clear HT HDR1 HM ht1 cs2 hn2
    simp only [tkV, tkE, V.zero, V.val, ← emp_mk]
    simp only [Option.isSome, Bool.false_eq_true, if_false]
    go_upto_region 4 with fail
    have z2 := At.new w2 #[.int .u8 0, .int .i64 0, .string ⟨#[]⟩] 24
    have bz := (Below.refl w2.heap.size w2).alloc (Nat.le_refl _) (.cells #[.int .u8 0, .int .i64 0, .string ⟨#[]⟩] 24)
    replace zr := At.mono zr bz
    replace BB := Below.next BB bz
    clear bz
    generalize w2.alloc (.cells #[.int .u8 0, .int .i64 0, .string ⟨#[]⟩] 24) = y2 at zr BB z2 ⊢
    generalize w2.heap.size = h2 at z2  ⊢
    have HRES := Lib.hid (HRN.out HN.out)
    clear HRN HRS HN
    have fq0 := zr.free 0
    have gq0 := zr.cell 0 rfl
    have fq1 := zr.free 1
    have gq1 := zr.cell 1 rfl
    have fq2 := zr.free 2
    have gq2 := zr.cell 2 rfl
    have fq3 := zr.free 3
    have gq3 := zr.cell 3 rfl
    have fq4 := zr.free 4
    have gq4 := zr.cell 4 rfl
    have fq5 := zr.free 5
    have gq5 := zr.cell 5 rfl
    have fq6 := zr.free 6
    have gq6 := zr.cell 6 rfl
    have fq7 := zr.free 7
    have gq7 := zr.cell 7 rfl
    have lq := zr.lt
    go_wp2_with (first | (at_make; refine Stop.un ?_) | (at_builtin; refine Stop.un ?_) | (with_reducible refine Stop.conv 40 9 ?_) | (with_reducible refine Stop.conv 9 40 ?_))
    have RQ := zr.set8 (.int .u8 0) (.int .i64 0) (.string ⟨#[]⟩) (.int .u8 0) (.int .i64 0) (.string ⟨#[]⟩) (.int .i64 0) (.int .i64 0)
    have rq0 := RQ.cell 0 rfl
    have rq1 := RQ.cell 1 rfl
    have rq2 := RQ.cell 2 rfl
    have rq3 := RQ.cell 3 rfl
    have rq4 := RQ.cell 4 rfl
    have rq5 := RQ.cell 5 rfl
    have rq6 := RQ.cell 6 rfl
    have rq7 := RQ.cell 7 rfl
    have rql := RQ.lt
    exact bodyPost_ret (v := .tuple #[.agg #[.int .u8 0, .int .i64 0, .string ⟨#[]⟩, .int .u8 0, .int .i64 0, .string ⟨#[]⟩, .int .i64 0, .int .i64 0], .int .i64 6]) (by simp [results, Try.results25, go_sem, rq0, rq1, rq2, rq3, rq4, rq5, rq6, rq7]; done) rfl ⟨by first | rfl | (rw [HRES.out]; rfl), below_set8 BB _ _ _ _ _ _ _ _  (Nat.le_refl _)⟩
  | some p1 =>
    obtain ⟨⟨k, n, s⟩, r1⟩ := p1
    obtain ⟨hd1, hin1⟩ := HDR1.out _ _ rfl
    simp only at hin1
    have hm1 := HM.out
    have hn2b : n2 < m := by have := hn2; simp only [tkL] at this; omega
    have hcs2 : Cs w2 a2 (bcells r1) := cs2
    have hn2c : r1.length = n2 := hn2
    clear cs2 hn2 hd1 hm1 HM HDR1 ht1
    have HT2 : Hid (takeZ kd l = match takeV r1 with | none => none | some (hi, r2) => tailZ kd ⟨k, n, s⟩ hi r2) := Lib.hid HT.out
    clear HT
    simp only [tkV, tkE, V.val]
    simp only [Option.isSome, if_true]
    go_upto_region 4 with fail
    have z2 := At.new w2 #[.int .u8 k, .int .i64 n, .string s] 24
    have bz := (Below.refl w2.heap.size w2).alloc (Nat.le_refl _) (.cells #[.int .u8 k, .int .i64 n, .string s] 24)
    replace zr := At.mono zr bz
    replace BB := Below.next BB bz
    replace hcs2 := Cs.mono hcs2 bz (Nat.le_refl _)
    clear bz
    generalize w2.alloc (.cells #[.int .u8 k, .int .i64 n, .string s] 24) = y2 at zr BB hcs2 z2 ⊢
    generalize w2.heap.size = h2 at z2  ⊢
    have HTK2 := Lib.hid (fun w hc => rtake_any a2 n2 c2 r1 w hc hn2c (by omega) le2)
    have HDR2 := Lib.hid (fun v r (h : takeV r1 = some (v, r)) => And.intro (takeV_drop h) (takeV_in h))
    have HN2 := Lib.hid hn2c
    clear hn2c
    generalize ht2 : takeV r1 = o2 at HTK2 HDR2 HT2
    have y2f := trivial
    clear y2f
    have HSB := Lib.hid BB.size
    go_wp2_with (first | (at_make; refine Stop.un ?_) | (at_builtin; refine Stop.un ?_) | (with_reducible refine Stop.conv 40 9 ?_) | (with_reducible refine Stop.conv 9 40 ?_))
    refine (HTK2.out _ hcs2).mono ?_
    rintro e w3 ⟨a3, n3, c3, hn3, le3, mx3, rfl, cs3, bt, ge3⟩
    have HGE3 := Lib.hid ge3
    clear ge3
    replace zr := At.mono zr bt
    replace BB := Below.next BB bt
    replace z2 := At.mono z2 bt
    clear bt
    clear hcs2 HTK2
    cases o2 with
    | none =>
      have HN : Hid (takeZ kd l = none) := Lib.hid HT2.out
      clear HT2 HDR2 HN2 ht2 cs3 hn3 z2
      simp only [tkV, tkE, V.zero, V.val, ← emp_mk]
      simp only [Option.isSome, Bool.false_eq_true, if_false]
      go_upto_region 7 with fail
      have z3 := At.new w3 #[.int .u8 0, .int .i64 0, .string ⟨#[]⟩] 24
      have bz := (Below.refl w3.heap.size w3).alloc (Nat.le_refl _) (.cells #[.int .u8 0, .int .i64 0, .string ⟨#[]⟩] 24)
      replace zr := At.mono zr bz
      replace BB := Below.next BB bz
      clear bz
      generalize w3.alloc (.cells #[.int .u8 0, .int .i64 0, .string ⟨#[]⟩] 24) = y3 at zr BB z3 ⊢
      generalize w3.heap.size = h3 at z3  ⊢
      have HRES := Lib.hid (HRN.out HN.out)
      clear HRN HRS HN
      have fq0 := zr.free 0
      have gq0 := zr.cell 0 rfl
      have fq1 := zr.free 1
      have gq1 := zr.cell 1 rfl
      have fq2 := zr.free 2
      have gq2 := zr.cell 2 rfl
      have fq3 := zr.free 3
      have gq3 := zr.cell 3 rfl
      have fq4 := zr.free 4
      have gq4 := zr.cell 4 rfl
      have fq5 := zr.free 5
      have gq5 := zr.cell 5 rfl
      have fq6 := zr.free 6
      have gq6 := zr.cell 6 rfl
      have fq7 := zr.free 7
      have gq7 := zr.cell 7 rfl
      have lq := zr.lt
      go_wp2_with (first | (at_make; refine Stop.un ?_) | (at_builtin; refine Stop.un ?_) | (with_reducible refine Stop.conv 40 9 ?_) | (with_reducible refine Stop.conv 9 40 ?_))
      have RQ := zr.set8 (.int .u8 0) (.int .i64 0) (.string ⟨#[]⟩) (.int .u8 0) (.int .i64 0) (.string ⟨#[]⟩) (.int .i64 0) (.int .i64 0)
      have rq0 := RQ.cell 0 rfl
      have rq1 := RQ.cell 1 rfl
      have rq2 := RQ.cell 2 rfl
      have rq3 := RQ.cell 3 rfl
      have rq4 := RQ.cell 4 rfl
      have rq5 := RQ.cell 5 rfl
      have rq6 := RQ.cell 6 rfl
      have rq7 := RQ.cell 7 rfl
      have rql := RQ.lt
      exact bodyPost_ret (v := .tuple #[.agg #[.int .u8 0, .int .i64 0, .string ⟨#[]⟩, .int .u8 0, .int .i64 0, .string ⟨#[]⟩, .int .i64 0, .int .i64 0], .int .i64 6]) (by simp [results, Try.results25, go_sem, rq0, rq1, rq2, rq3, rq4, rq5, rq6, rq7]; done) rfl ⟨by first | rfl | (rw [HRES.out]; rfl), below_set8 BB _ _ _ _ _ _ _ _  (Nat.le_refl _)⟩
    | some p2 =>
      obtain ⟨⟨k', n', s'⟩, r2⟩ := p2
      obtain ⟨hd2, hin2⟩ := HDR2.out _ _ rfl
      simp only at hin2
      have hm2 := HN2.out
      have hn3b : n3 < n2 := by have := hn3; simp only [tkL] at this; omega
      have hcs3 : Cs w3 a3 (bcells r2) := cs3
      have hn3c : r2.length = n3 := hn3
      clear cs3 hn3 hd2 hm2 HN2 HDR2 ht2
      have HT3 : Hid (takeZ kd l = tailZ kd ⟨k, n, s⟩ ⟨k', n', s'⟩ r2) := Lib.hid HT2.out
      clear HT2
      simp only [tkV, tkE, V.val]
      simp only [Option.isSome, if_true]
      have HAD : Hid (∀ a, a3 = some a → w.heap.size ≤ a.block ∧ a.block < w3.heap.size) := Lib.hid (fun a ha => by have h1 := HGE3.out a ha; have h2 := HSB.out; omega)
      clear HGE3 HSB
      go_upto_region 7 with fail
      have z3 := At.new w3 #[.int .u8 k', .int .i64 n', .string s'] 24
      have bz := (Below.refl w3.heap.size w3).alloc (Nat.le_refl _) (.cells #[.int .u8 k', .int .i64 n', .string s'] 24)
      replace zr := At.mono zr bz
      replace BB := Below.next BB bz
      replace z2 := At.mono z2 bz
      replace hcs3 := Cs.mono hcs3 bz (Nat.le_refl _)
      clear bz
      generalize w3.alloc (.cells #[.int .u8 k', .int .i64 n', .string s'] 24) = y3 at zr BB z2 hcs3 z3 ⊢
      generalize w3.heap.size = h3 at z3 HAD ⊢
      have HW1 := Lib.hid zr.lt
      have HW2 := Lib.hid z2.lt
      have HW3 := Lib.hid z3.lt
      go_upto_region 10 with fail
      have hr : Rdr 64 w.heap.size (y3.heap.size + 1) (y3.alloc (.cells #[.slice a3 n3 c3, .bool false] 64)) y3.heap.size r2 false := ⟨a3, n3, c3, _root_.Go.heap_alloc_new y3 _, hn3c, le3, mx3, hcs3.alloc _, ⟨Nat.le_of_lt HW1.out, by omega⟩, fun a ha => by have h1 := HAD.out a ha; have h2 := HW3.out; omega⟩
      have bt := (Below.refl y3.heap.size y3).alloc (Nat.le_refl _) (.cells #[.slice a3 n3 c3, .bool false] 64)
      have hTs : y3.heap.size + 1 ≤ (y3.alloc (.cells #[.slice a3 n3 c3, .bool false] 64)).heap.size := by simp
      clear hcs3
      replace zr := At.mono zr bt
      replace BB := Below.next BB bt
      replace z2 := At.mono z2 bt
      replace z3 := At.mono z3 bt
      clear bt
      have hgw : w.heap.size < y3.heap.size := HW1.out
      have hg2 : h2 < y3.heap.size := HW2.out
      have hg3 : h3 < y3.heap.size := HW3.out
      generalize y3.alloc (.cells #[.slice a3 n3 c3, .bool false] 64) = w5 at zr BB z2 z3 hr hTs ⊢
      generalize y3.heap.size = g at hr hTs hgw hg2 hg3 ⊢
      have hg5 : g < g + 1 := by omega
      clear HW1 HW2 HW3 HAD
      generalize hT : g + 1 = T at hr hg5 hTs
      have HI1 := Lib.hid (fun W hr => rrint_any 64 w.heap.size T g r2 false W hr)
      have HI2 := Lib.hid (fun W hr => rrint_any 64 w.heap.size T g (rdRest r2) (rdBad r2) W hr)
      have HEND := Lib.hid (fun W hr => rrend_any 64 w.heap.size T g (rdRest (rdRest r2)) (rdBad r2 || rdBad (rdRest r2)) W hr)
      have hnu := zag_in (rdN_lt r2)
      have hma := zag_in (rdN_lt (rdRest r2))
      have ht4 := HT3.out
      unfold tailZ at ht4
      simp only [Bool.false_or] at HI1
      clear HT3 hn3c
      generalize zag (rdN (rdRest r2)) = ma at HI2 hma ht4
      generalize zag (rdN r2) = nu at HI1 hnu ht4
      generalize (rdBad r2 || rdBad (rdRest r2)) = bb at HI2 HEND ht4
      generalize rdRest (rdRest r2) = r4 at HI2 HEND ht4
      generalize rdRest r2 = r3 at HI1 HI2
      generalize rdBad r2 = b3 at HI1 HI2
      have HT4 := Lib.hid ht4
      clear ht4
      go_cut [11] (fun x wx => ∃ h, x = .pointer (some ⟨h, 0, none⟩) ∧ T ≤ h ∧ At wx w.heap.size #[.int .u8 0, .int .i64 0, .string ⟨#[]⟩, .int .u8 0, .int .i64 0, .string ⟨#[]⟩, .int .i64 0, .int .i64 0] 26 ∧ At wx h #[.int .u8 k, .int .i64 n, .string s, .int .u8 k', .int .i64 n', .string s', .int .i64 nu, .int .i64 0] 26 ∧ Rdr 64 w.heap.size T wx g r3 b3 ∧ Below w.heap.size w wx)
      case first =>
        refine mix_startX (T) (some g) 7 rfl (by kernel_rfl) ?_
        intro xq hxq
        have HSZ : T ≤ xq.heap.size := Nat.le_trans hTs hxq.size
        have hz2 : h2 < T := by omega
        have hz3 : h3 < T := by omega
        replace zr := At.mono zr hxq
        replace BB := Below.next BB hxq
        replace z2 := At.mono z2 hxq
        replace z3 := At.mono z3 hxq
        replace hr := hr.below hxq
        clear hxq
        have ne2 : some h2 ≠ some g := by simp; omega
        have ne3 : some h3 ≠ some g := by simp; omega
        have x20 := z2.cell 0 rfl
        have x21 := z2.cell 1 rfl
        have x22 := z2.cell 2 rfl
        have x30 := z3.cell 0 rfl
        have x31 := z3.cell 1 rfl
        have x32 := z3.cell 2 rfl
        refine mix_quiet (Keeps.rx (T) (some g)) 0 rfl (by kernel_rfl) rfl ?_
        intro ι U hne hU
        have hcw0 := fun ii => (RX.cell (hU ii) hz2 ne2 x20)
        have hcw1 := fun ii => (RX.cell (hU ii) hz2 ne2 x21)
        have hcw2 := fun ii => (RX.cell (hU ii) hz2 ne2 x22)
        go_big_quiet_op
        clear hU hne hcw0 hcw1 hcw2 U ι
        show wpAnyM _ _ _ _ _ _ _ _ _
        refine mix_quiet (Keeps.rx (T) (some g)) 1 rfl (by kernel_rfl) rfl ?_
        intro ι U hne hU
        have hcw0 := fun ii => (RX.cell (hU ii) hz3 ne3 x30)
        have hcw1 := fun ii => (RX.cell (hU ii) hz3 ne3 x31)
        have hcw2 := fun ii => (RX.cell (hU ii) hz3 ne3 x32)
        go_big_quiet_op
        clear hU hne hcw0 hcw1 hcw2 U ι
        show wpAnyM _ _ _ _ _ _ _ _ _
        refine mix_quiet (Keeps.rx (T) (some g)) 2 rfl (by kernel_rfl) rfl ?_
        intro ι U hne hU
        go_big_quiet_op
        clear hU hne U ι
        show wpAnyM _ _ _ _ _ _ _ _ _
        clear z2 z3 ne2 ne3 hz2 hz3 x20 x21 x22 x30 x31 x32
        refine mix_two 3 5 rfl rfl (by kernel_rfl) rfl rfl ?_ ?_
        ·
          go_wp2_with (first | (at_make; refine Stop.un ?_) | (at_builtin; refine Stop.un ?_) | (with_reducible refine Stop.conv 40 9 ?_) | (with_reducible refine Stop.conv 9 40 ?_))
          refine (HI1.out _ hr).mono ?_
          rintro e wc0 ⟨rfl, hrn, hgn⟩
          have hsn := hgn.size
          replace zr := zr.past hgn (by simp; omega)
          replace BB := BB.one hgn (by omega) (Nat.le_refl _)
          go_wp2_with (first | (at_make; refine Stop.un ?_) | (at_builtin; refine Stop.un ?_) | (with_reducible refine Stop.conv 40 9 ?_) | (with_reducible refine Stop.conv 9 40 ?_))
          refine MixPost.mk (RX.grown hgn HSZ (fun k e => .inr e.symm)) ?_
          replace hr := hrn
          replace HSZ := Nat.le_trans HSZ hsn
          clear hrn hgn hsn
          refine mix_quiet (Keeps.rx (T) (some g)) 4 rfl (by kernel_rfl) rfl ?_
          intro ι U hne hU
          go_big_quiet_op
          clear hU hne U ι
          show wpAnyM _ _ _ _ _ _ _ _ _
          refine mix_any 5 rfl (by kernel_rfl) rfl ?_
          go_wp2_with (first | (at_make; refine Stop.un ?_) | (at_builtin; refine Stop.un ?_) | (with_reducible refine Stop.conv 40 9 ?_) | (with_reducible refine Stop.conv 9 40 ?_))
          have zx := At.new wc0 #[.int .u8 0, .int .i64 0, .string ⟨#[]⟩, .int .u8 0, .int .i64 0, .string ⟨#[]⟩, .int .i64 0, .int .i64 0] 26
          have bz := (Below.refl wc0.heap.size wc0).alloc (Nat.le_refl _) (.cells #[.int .u8 0, .int .i64 0, .string ⟨#[]⟩, .int .u8 0, .int .i64 0, .string ⟨#[]⟩, .int .i64 0, .int .i64 0] 26)
          replace zr := zr.mono bz
          replace BB := BB.next bz
          replace hr := hr.below bz
          refine MixPost.mk (RX.ext bz HSZ) ?_
          have hTx : T ≤ wc0.heap.size := HSZ
          replace HSZ := Nat.le_trans HSZ bz.size
          clear bz
          generalize wc0.alloc (.cells #[.int .u8 0, .int .i64 0, .string ⟨#[]⟩, .int .u8 0, .int .i64 0, .string ⟨#[]⟩, .int .i64 0, .int .i64 0] 26) = wn at zr BB hr HSZ zx ⊢
          generalize wc0.heap.size = hx at zx hTx ⊢
          refine mix_any 6 rfl (by kernel_rfl) rfl ?_
          have fq0 := zx.free 0
          have gq0 := zx.cell 0 rfl
          have fq1 := zx.free 1
          have gq1 := zx.cell 1 rfl
          have fq2 := zx.free 2
          have gq2 := zx.cell 2 rfl
          have fq3 := zx.free 3
          have gq3 := zx.cell 3 rfl
          have fq4 := zx.free 4
          have gq4 := zx.cell 4 rfl
          have fq5 := zx.free 5
          have gq5 := zx.cell 5 rfl
          have fq6 := zx.free 6
          have gq6 := zx.cell 6 rfl
          have fq7 := zx.free 7
          have gq7 := zx.cell 7 rfl
          have lq := zx.lt
          go_wp2_with (first | (at_make; refine Stop.un ?_) | (at_builtin; refine Stop.un ?_) | (with_reducible refine Stop.conv 40 9 ?_) | (with_reducible refine Stop.conv 9 40 ?_))
          refine MixPost.mk (RX.more (RX.set8 _ _ _ _ _ _ _ _ _  hTx)) ?_
          refine mix_end (by kernel_rfl) ?_
          clear lq fq0 gq0 fq1 gq1 fq2 gq2 fq3 gq3 fq4 gq4 fq5 gq5 fq6 gq6 fq7 gq7
          go_wp2_with (first | (at_make; refine Stop.un ?_) | (at_builtin; refine Stop.un ?_) | (with_reducible refine Stop.conv 40 9 ?_) | (with_reducible refine Stop.conv 9 40 ?_))
          go_meet
          exact ⟨_, rfl, hTx, zr.off8 (.int .u8 k) (.int .i64 n) (.string s) (.int .u8 k') (.int .i64 n') (.string s') (.int .i64 nu) (.int .i64 0) (by omega), zx.set8 (.int .u8 k) (.int .i64 n) (.string s) (.int .u8 k') (.int .i64 n') (.string s') (.int .i64 nu) (.int .i64 0), hr.under (RX.set8 _ (.int .u8 k) (.int .i64 n) (.string s) (.int .u8 k') (.int .i64 n') (.string s') (.int .i64 nu) (.int .i64 0) hTx), below_set8 BB (.int .u8 k) (.int .i64 n) (.string s) (.int .u8 k') (.int .i64 n') (.string s') (.int .i64 nu) (.int .i64 0) (by omega)⟩
        ·
          go_wp2_with (first | (at_make; refine Stop.un ?_) | (at_builtin; refine Stop.un ?_) | (with_reducible refine Stop.conv 40 9 ?_) | (with_reducible refine Stop.conv 9 40 ?_))
          have zx := At.new xq #[.int .u8 0, .int .i64 0, .string ⟨#[]⟩, .int .u8 0, .int .i64 0, .string ⟨#[]⟩, .int .i64 0, .int .i64 0] 26
          have bz := (Below.refl xq.heap.size xq).alloc (Nat.le_refl _) (.cells #[.int .u8 0, .int .i64 0, .string ⟨#[]⟩, .int .u8 0, .int .i64 0, .string ⟨#[]⟩, .int .i64 0, .int .i64 0] 26)
          replace zr := zr.mono bz
          replace BB := BB.next bz
          replace hr := hr.below bz
          refine MixPost.mk (RX.ext bz HSZ) ?_
          have hTx : T ≤ xq.heap.size := HSZ
          replace HSZ := Nat.le_trans HSZ bz.size
          clear bz
          generalize xq.alloc (.cells #[.int .u8 0, .int .i64 0, .string ⟨#[]⟩, .int .u8 0, .int .i64 0, .string ⟨#[]⟩, .int .i64 0, .int .i64 0] 26) = wn at zr BB hr HSZ zx ⊢
          generalize xq.heap.size = hx at zx hTx ⊢
          refine mix_any 3 rfl (by kernel_rfl) rfl ?_
          go_wp2_with (first | (at_make; refine Stop.un ?_) | (at_builtin; refine Stop.un ?_) | (with_reducible refine Stop.conv 40 9 ?_) | (with_reducible refine Stop.conv 9 40 ?_))
          refine (HI1.out _ hr).mono ?_
          rintro e wc0 ⟨rfl, hrn, hgn⟩
          have hsn := hgn.size
          replace zr := zr.past hgn (by simp; omega)
          replace BB := BB.one hgn (by omega) (Nat.le_refl _)
          replace zx := zx.past hgn (by simp; omega)
          go_wp2_with (first | (at_make; refine Stop.un ?_) | (at_builtin; refine Stop.un ?_) | (with_reducible refine Stop.conv 40 9 ?_) | (with_reducible refine Stop.conv 9 40 ?_))
          refine MixPost.mk (RX.grown hgn HSZ (fun k e => .inr e.symm)) ?_
          replace hr := hrn
          replace HSZ := Nat.le_trans HSZ hsn
          clear hrn hgn hsn
          refine mix_quiet (Keeps.rx (T) (some g)) 4 rfl (by kernel_rfl) rfl ?_
          intro ι U hne hU
          go_big_quiet_op
          clear hU hne U ι
          show wpAnyM _ _ _ _ _ _ _ _ _
          refine mix_any 6 rfl (by kernel_rfl) rfl ?_
          have fq0 := zx.free 0
          have gq0 := zx.cell 0 rfl
          have fq1 := zx.free 1
          have gq1 := zx.cell 1 rfl
          have fq2 := zx.free 2
          have gq2 := zx.cell 2 rfl
          have fq3 := zx.free 3
          have gq3 := zx.cell 3 rfl
          have fq4 := zx.free 4
          have gq4 := zx.cell 4 rfl
          have fq5 := zx.free 5
          have gq5 := zx.cell 5 rfl
          have fq6 := zx.free 6
          have gq6 := zx.cell 6 rfl
          have fq7 := zx.free 7
          have gq7 := zx.cell 7 rfl
          have lq := zx.lt
          go_wp2_with (first | (at_make; refine Stop.un ?_) | (at_builtin; refine Stop.un ?_) | (with_reducible refine Stop.conv 40 9 ?_) | (with_reducible refine Stop.conv 9 40 ?_))
          refine MixPost.mk (RX.more (RX.set8 _ _ _ _ _ _ _ _ _  hTx)) ?_
          refine mix_end (by kernel_rfl) ?_
          clear lq fq0 gq0 fq1 gq1 fq2 gq2 fq3 gq3 fq4 gq4 fq5 gq5 fq6 gq6 fq7 gq7
          go_wp2_with (first | (at_make; refine Stop.un ?_) | (at_builtin; refine Stop.un ?_) | (with_reducible refine Stop.conv 40 9 ?_) | (with_reducible refine Stop.conv 9 40 ?_))
          go_meet
          exact ⟨_, rfl, hTx, zr.off8 (.int .u8 k) (.int .i64 n) (.string s) (.int .u8 k') (.int .i64 n') (.string s') (.int .i64 nu) (.int .i64 0) (by omega), zx.set8 (.int .u8 k) (.int .i64 n) (.string s) (.int .u8 k') (.int .i64 n') (.string s') (.int .i64 nu) (.int .i64 0), hr.under (RX.set8 _ (.int .u8 k) (.int .i64 n) (.string s) (.int .u8 k') (.int .i64 n') (.string s') (.int .i64 nu) (.int .i64 0) hTx), below_set8 BB (.int .u8 k) (.int .i64 n) (.string s) (.int .u8 k') (.int .i64 n') (.string s') (.int .i64 nu) (.int .i64 0) (by omega)⟩
      case rest =>
        obtain ⟨hx, rfl, hTx, zr, zx, hr, BB⟩ := hcut
        clear z2 z3 HI1
        have HRT := Lib.hid (fun w => rzright_any kd ⟨⟨k, n, s⟩, ⟨k', n', s'⟩, nu, ma⟩ w ⟨hma, hnu⟩)
        have HPT := Lib.hid (fun w => rzput_any ⟨⟨k, n, s⟩, ⟨k', n', s'⟩, nu, ma⟩ w hin1 hin2 hnu hma)
        have HPE : Hid (takeZ kd l = some ⟨⟨k, n, s⟩, ⟨k', n', s'⟩, nu, ma⟩ → putZ ⟨⟨k, n, s⟩, ⟨k', n', s'⟩, nu, ma⟩ = l) := Lib.hid takeZ_spec
        simp only [Zn.val] at HRT HPT
        generalize rightZ kd ⟨⟨k, n, s⟩, ⟨k', n', s'⟩, nu, ma⟩ = R at HRT HT4
        generalize putZ ⟨⟨k, n, s⟩, ⟨k', n', s'⟩, nu, ma⟩ = pz at HPT HPE
        go_wp2_with (first | (at_make; refine Stop.un ?_) | (at_builtin; refine Stop.un ?_) | (with_reducible refine Stop.conv 40 9 ?_) | (with_reducible refine Stop.conv 9 40 ?_))
        refine (HI2.out _ hr).mono ?_
        rintro e w7 ⟨rfl, hrn, hgn⟩
        replace zr := zr.past hgn (by simp; omega)
        replace zx := zx.past hgn (by simp; omega)
        replace BB := BB.one hgn (by omega) (Nat.le_refl _)
        clear hr hgn HI2
        have fq7 := zx.free 7
        have gq7 := zx.cell 7 rfl
        have lq := zx.lt
        go_upto_region 12 with fail
        clear fq7 gq7 lq
        have zx2 : At (w7.setCell ⟨hx, 7, none⟩ (.int .i64 ma)) hx #[.int .u8 k, .int .i64 n, .string s, .int .u8 k', .int .i64 n', .string s', .int .i64 nu, .int .i64 ma] 26 := zx.set 7 (.int .i64 ma)
        have zr2 := zr.off (p := ⟨hx, 7, none⟩) (by simp; omega) (.int .i64 ma)
        have hr2 := hrn.other (grown_set w7 hx 7 (.int .i64 ma)) (.inr hTx)
        have BB2 := BB.setCell (p := ⟨hx, 7, none⟩) (by simp; omega) (.int .i64 ma)
        clear zx zr hrn BB
        generalize w7.setCell ⟨hx, 7, none⟩ (.int .i64 ma) = w8 at zx2 zr2 hr2 BB2 ⊢
        have zx := zx2
        have zr := zr2
        have hr := hr2
        have BB := BB2
        clear zx2 zr2 hr2 BB2
        rcases end_two r4 bb with e | e
        ·
          rw [e] at HEND HT4
          cases R with
          | false =>
            have HN : Hid (takeZ kd l = none) := Lib.hid (by rw [HT4.out, if_neg (by simp)])
            clear HT4 HPT HPE
            refine mix_startE 17 rfl (by kernel_rfl) ?_
            intro xq hxq
            replace zr := At.mono zr hxq
            replace zx := At.mono zx hxq
            replace hr := Rdr.below hr hxq
            replace BB := Below.next BB hxq
            clear hxq
            refine mix_quiet Keeps.ext 0 rfl (by kernel_rfl) rfl ?_
            intro ι U hne hU
            go_big_quiet_op
            clear hU hne U ι
            show wpAnyM _ _ _ _ _ _ _ _ _
            refine mix_any 1 rfl (by kernel_rfl) rfl ?_
            go_wp2_with (first | (at_make; refine Stop.un ?_) | (at_builtin; refine Stop.un ?_) | (with_reducible refine Stop.conv 40 9 ?_) | (with_reducible refine Stop.conv 9 40 ?_))
            refine (HEND.out _ hr).mono ?_
            rintro e wq1 ⟨rfl, rfl⟩
            go_wp2_with (first | (at_make; refine Stop.un ?_) | (at_builtin; refine Stop.un ?_) | (with_reducible refine Stop.conv 40 9 ?_) | (with_reducible refine Stop.conv 9 40 ?_))
            refine MixPost.mk (Ext.refl _) ?_
            refine mix_quiet Keeps.ext 2 rfl (by kernel_rfl) rfl ?_
            intro ι U hne hU
            go_big_quiet_op
            clear hU hne U ι
            show wpAnyM _ _ _ _ _ _ _ _ _
            refine mix_quiet Keeps.ext 3 rfl (by kernel_rfl) rfl ?_
            intro ι U hne hU
            go_big_quiet_op
            clear hU hne U ι
            show wpAnyM _ _ _ _ _ _ _ _ _
            refine mix_quiet Keeps.ext 4 rfl (by kernel_rfl) rfl ?_
            intro ι U hne hU
            go_big_quiet_op
            clear hU hne U ι
            show wpAnyM _ _ _ _ _ _ _ _ _
            refine mix_quiet Keeps.ext 5 rfl (by kernel_rfl) rfl ?_
            intro ι U hne hU
            have hcw0 := fun ii => (At.mono zx (hU ii)).cell 0 rfl
            have hcw1 := fun ii => (At.mono zx (hU ii)).cell 1 rfl
            have hcw2 := fun ii => (At.mono zx (hU ii)).cell 2 rfl
            have hcw3 := fun ii => (At.mono zx (hU ii)).cell 3 rfl
            have hcw4 := fun ii => (At.mono zx (hU ii)).cell 4 rfl
            have hcw5 := fun ii => (At.mono zx (hU ii)).cell 5 rfl
            have hcw6 := fun ii => (At.mono zx (hU ii)).cell 6 rfl
            have hcw7 := fun ii => (At.mono zx (hU ii)).cell 7 rfl
            go_big_quiet_op
            clear hU hne hcw0 hcw1 hcw2 hcw3 hcw4 hcw5 hcw6 hcw7 U ι
            show wpAnyM _ _ _ _ _ _ _ _ _
            refine mix_any 6 rfl (by kernel_rfl) rfl ?_
            go_wp2_with (first | (at_make; refine Stop.un ?_) | (at_builtin; refine Stop.un ?_) | (with_reducible refine Stop.conv 40 9 ?_) | (with_reducible refine Stop.conv 9 40 ?_))
            refine (HRT.out _).mono ?_
            rintro e wq2 ⟨rfl, bq2⟩
            go_wp2_with (first | (at_make; refine Stop.un ?_) | (at_builtin; refine Stop.un ?_) | (with_reducible refine Stop.conv 40 9 ?_) | (with_reducible refine Stop.conv 9 40 ?_))
            refine MixPost.mk bq2 ?_
            replace zr := At.mono zr bq2
            replace zx := At.mono zx bq2
            replace hr := Rdr.below hr bq2
            replace BB := Below.next BB bq2
            clear bq2
            refine mix_quiet Keeps.ext 7 rfl (by kernel_rfl) rfl ?_
            intro ι U hne hU
            go_big_quiet_op
            clear hU hne U ι
            show wpAnyM _ _ _ _ _ _ _ _ _
            refine mix_quiet Keeps.ext 8 rfl (by kernel_rfl) rfl ?_
            intro ι U hne hU
            go_big_quiet_op
            clear hU hne U ι
            show wpAnyM _ _ _ _ _ _ _ _ _
            refine mix_quiet Keeps.ext 9 rfl (by kernel_rfl) rfl ?_
            intro ι U hne hU
            go_big_quiet_op
            clear hU hne U ι
            show wpAnyM _ _ _ _ _ _ _ _ _
            refine mix_skip Keeps.ext 10 rfl (by kernel_rfl) rfl ?_
            go_big_quiet_skip
            refine wpQuiet_nil ?_
            show wpAnyM _ _ _ _ _ _ _ _ _
            refine mix_skip Keeps.ext 11 rfl (by kernel_rfl) rfl ?_
            go_big_quiet_skip
            refine wpQuiet_nil ?_
            show wpAnyM _ _ _ _ _ _ _ _ _
            refine mix_skip Keeps.ext 12 rfl (by kernel_rfl) rfl ?_
            go_big_quiet_skip
            refine wpQuiet_nil ?_
            show wpAnyM _ _ _ _ _ _ _ _ _
            refine mix_skip Keeps.ext 13 rfl (by kernel_rfl) rfl ?_
            go_big_quiet_skip
            refine wpQuiet_nil ?_
            show wpAnyM _ _ _ _ _ _ _ _ _
            refine mix_skip Keeps.ext 14 rfl (by kernel_rfl) rfl ?_
            go_big_quiet_skip
            refine wpQuiet_nil ?_
            show wpAnyM _ _ _ _ _ _ _ _ _
            refine mix_skip Keeps.ext 15 rfl (by kernel_rfl) rfl ?_
            go_big_quiet_skip
            refine wpQuiet_nil ?_
            show wpAnyM _ _ _ _ _ _ _ _ _
            refine mix_quiet Keeps.ext 16 rfl (by kernel_rfl) rfl ?_
            intro ι U hne hU
            go_big_quiet_op
            clear hU hne U ι
            show wpAnyM _ _ _ _ _ _ _ _ _
            refine mix_end (by kernel_rfl) ?_
            clear zx hr HEND HRT
            have HRES := Lib.hid (HRN.out HN.out)
            clear HRN HRS HN
            have fq0 := zr.free 0
            have gq0 := zr.cell 0 rfl
            have fq1 := zr.free 1
            have gq1 := zr.cell 1 rfl
            have fq2 := zr.free 2
            have gq2 := zr.cell 2 rfl
            have fq3 := zr.free 3
            have gq3 := zr.cell 3 rfl
            have fq4 := zr.free 4
            have gq4 := zr.cell 4 rfl
            have fq5 := zr.free 5
            have gq5 := zr.cell 5 rfl
            have fq6 := zr.free 6
            have gq6 := zr.cell 6 rfl
            have fq7 := zr.free 7
            have gq7 := zr.cell 7 rfl
            have lq := zr.lt
            go_wp2_with (first | (at_make; refine Stop.un ?_) | (at_builtin; refine Stop.un ?_) | (with_reducible refine Stop.conv 40 9 ?_) | (with_reducible refine Stop.conv 9 40 ?_))
            have RQ := zr.set8 (.int .u8 0) (.int .i64 0) (.string ⟨#[]⟩) (.int .u8 0) (.int .i64 0) (.string ⟨#[]⟩) (.int .i64 0) (.int .i64 0)
            have rq0 := RQ.cell 0 rfl
            have rq1 := RQ.cell 1 rfl
            have rq2 := RQ.cell 2 rfl
            have rq3 := RQ.cell 3 rfl
            have rq4 := RQ.cell 4 rfl
            have rq5 := RQ.cell 5 rfl
            have rq6 := RQ.cell 6 rfl
            have rq7 := RQ.cell 7 rfl
            have rql := RQ.lt
            exact bodyPost_ret (v := .tuple #[.agg #[.int .u8 0, .int .i64 0, .string ⟨#[]⟩, .int .u8 0, .int .i64 0, .string ⟨#[]⟩, .int .i64 0, .int .i64 0], .int .i64 6]) (by simp [results, Try.results25, go_sem, rq0, rq1, rq2, rq3, rq4, rq5, rq6, rq7]; done) rfl ⟨by first | rfl | (rw [HRES.out]; rfl), below_set8 BB _ _ _ _ _ _ _ _  (Nat.le_refl _)⟩
          | true =>
            have hz := HT4.out
            rw [if_pos (by simp)] at hz
            have hpz := HPE.out hz
            subst hpz
            have HZ := Lib.hid hz
            have HRES := Lib.hid (HRS.out _ hz)
            clear hz HT4 HRN HRS HPE
            have c1 := hc0.mono BB (Nat.le_refl _)
            have HLC := HM0
            have hst : (!(strOf pz).toList == (strOf pz).toList) = false := by simp
            refine mix_startE 17 rfl (by kernel_rfl) ?_
            intro xq hxq
            replace zr := At.mono zr hxq
            replace zx := At.mono zx hxq
            replace hr := Rdr.below hr hxq
            replace BB := Below.next BB hxq
            replace c1 := Cs.mono c1 hxq (Nat.le_refl _)
            clear hxq
            refine mix_quiet Keeps.ext 0 rfl (by kernel_rfl) rfl ?_
            intro ι U hne hU
            go_big_quiet_op
            clear hU hne U ι
            show wpAnyM _ _ _ _ _ _ _ _ _
            refine mix_any 1 rfl (by kernel_rfl) rfl ?_
            go_wp2_with (first | (at_make; refine Stop.un ?_) | (at_builtin; refine Stop.un ?_) | (with_reducible refine Stop.conv 40 9 ?_) | (with_reducible refine Stop.conv 9 40 ?_))
            refine (HEND.out _ hr).mono ?_
            rintro e wq3 ⟨rfl, rfl⟩
            go_wp2_with (first | (at_make; refine Stop.un ?_) | (at_builtin; refine Stop.un ?_) | (with_reducible refine Stop.conv 40 9 ?_) | (with_reducible refine Stop.conv 9 40 ?_))
            refine MixPost.mk (Ext.refl _) ?_
            refine mix_quiet Keeps.ext 2 rfl (by kernel_rfl) rfl ?_
            intro ι U hne hU
            go_big_quiet_op
            clear hU hne U ι
            show wpAnyM _ _ _ _ _ _ _ _ _
            refine mix_quiet Keeps.ext 3 rfl (by kernel_rfl) rfl ?_
            intro ι U hne hU
            go_big_quiet_op
            clear hU hne U ι
            show wpAnyM _ _ _ _ _ _ _ _ _
            refine mix_quiet Keeps.ext 4 rfl (by kernel_rfl) rfl ?_
            intro ι U hne hU
            go_big_quiet_op
            clear hU hne U ι
            show wpAnyM _ _ _ _ _ _ _ _ _
            refine mix_quiet Keeps.ext 5 rfl (by kernel_rfl) rfl ?_
            intro ι U hne hU
            have hcw0 := fun ii => (At.mono zx (hU ii)).cell 0 rfl
            have hcw1 := fun ii => (At.mono zx (hU ii)).cell 1 rfl
            have hcw2 := fun ii => (At.mono zx (hU ii)).cell 2 rfl
            have hcw3 := fun ii => (At.mono zx (hU ii)).cell 3 rfl
            have hcw4 := fun ii => (At.mono zx (hU ii)).cell 4 rfl
            have hcw5 := fun ii => (At.mono zx (hU ii)).cell 5 rfl
            have hcw6 := fun ii => (At.mono zx (hU ii)).cell 6 rfl
            have hcw7 := fun ii => (At.mono zx (hU ii)).cell 7 rfl
            go_big_quiet_op
            clear hU hne hcw0 hcw1 hcw2 hcw3 hcw4 hcw5 hcw6 hcw7 U ι
            show wpAnyM _ _ _ _ _ _ _ _ _
            refine mix_any 6 rfl (by kernel_rfl) rfl ?_
            go_wp2_with (first | (at_make; refine Stop.un ?_) | (at_builtin; refine Stop.un ?_) | (with_reducible refine Stop.conv 40 9 ?_) | (with_reducible refine Stop.conv 9 40 ?_))
            refine (HRT.out _).mono ?_
            rintro e wq4 ⟨rfl, bq4⟩
            go_wp2_with (first | (at_make; refine Stop.un ?_) | (at_builtin; refine Stop.un ?_) | (with_reducible refine Stop.conv 40 9 ?_) | (with_reducible refine Stop.conv 9 40 ?_))
            refine MixPost.mk bq4 ?_
            replace zr := At.mono zr bq4
            replace zx := At.mono zx bq4
            replace hr := Rdr.below hr bq4
            replace BB := Below.next BB bq4
            replace c1 := Cs.mono c1 bq4 (Nat.le_refl _)
            clear bq4
            refine mix_quiet Keeps.ext 7 rfl (by kernel_rfl) rfl ?_
            intro ι U hne hU
            go_big_quiet_op
            clear hU hne U ι
            show wpAnyM _ _ _ _ _ _ _ _ _
            refine mix_quiet Keeps.ext 8 rfl (by kernel_rfl) rfl ?_
            intro ι U hne hU
            go_big_quiet_op
            clear hU hne U ι
            show wpAnyM _ _ _ _ _ _ _ _ _
            refine mix_quiet Keeps.ext 9 rfl (by kernel_rfl) rfl ?_
            intro ι U hne hU
            go_big_quiet_op
            clear hU hne U ι
            show wpAnyM _ _ _ _ _ _ _ _ _
            refine mix_quiet Keeps.ext 10 rfl (by kernel_rfl) rfl ?_
            intro ι U hne hU
            have hcw0 := fun ii => (At.mono zx (hU ii)).cell 0 rfl
            have hcw1 := fun ii => (At.mono zx (hU ii)).cell 1 rfl
            have hcw2 := fun ii => (At.mono zx (hU ii)).cell 2 rfl
            have hcw3 := fun ii => (At.mono zx (hU ii)).cell 3 rfl
            have hcw4 := fun ii => (At.mono zx (hU ii)).cell 4 rfl
            have hcw5 := fun ii => (At.mono zx (hU ii)).cell 5 rfl
            have hcw6 := fun ii => (At.mono zx (hU ii)).cell 6 rfl
            have hcw7 := fun ii => (At.mono zx (hU ii)).cell 7 rfl
            go_big_quiet_op
            clear hU hne hcw0 hcw1 hcw2 hcw3 hcw4 hcw5 hcw6 hcw7 U ι
            show wpAnyM _ _ _ _ _ _ _ _ _
            refine mix_quiet Keeps.ext 13 rfl (by kernel_rfl) rfl ?_
            intro ι U hne hU
            go_big_quiet_op
            clear hU hne U ι
            show wpAnyM _ _ _ _ _ _ _ _ _
            refine mix_quiet Keeps.ext 14 rfl (by kernel_rfl) rfl ?_
            intro ι U hne hU
            have hcv := fun ii => run_conv_cs (P := Try.prog) (w := U ii) Try.underlying40 Try.underlying5 Try.underlying9 (cap := cap) HLC.out (Cs.mono c1 (hU ii) (Nat.le_refl _))
            go_big_quiet_op
            clear hU hne hcv U ι
            show wpAnyM _ _ _ _ _ _ _ _ _
            refine mix_any 11 rfl (by kernel_rfl) rfl ?_
            go_wp2_with (first | (at_make; refine Stop.un ?_) | (at_builtin; refine Stop.un ?_) | (with_reducible refine Stop.conv 40 9 ?_) | (with_reducible refine Stop.conv 9 40 ?_))
            refine (HPT.out _).mono ?_
            rintro e wp ⟨ap, np, cp, hp, rfl, op⟩
            have bp := Own.below op
            have csp := Own.cs op
            have HNP := Lib.hid hp
            clear op hp
            go_wp2_with (first | (at_make; refine Stop.un ?_) | (at_builtin; refine Stop.un ?_) | (with_reducible refine Stop.conv 40 9 ?_) | (with_reducible refine Stop.conv 9 40 ?_))
            refine MixPost.mk bp ?_
            replace zr := At.mono zr bp
            replace zx := At.mono zx bp
            replace hr := Rdr.below hr bp
            replace BB := Below.next BB bp
            replace c1 := Cs.mono c1 bp (Nat.le_refl _)
            clear bp
            refine mix_quiet Keeps.ext 12 rfl (by kernel_rfl) rfl ?_
            intro ι U hne hU
            have hcv := fun ii => run_conv_cs (P := Try.prog) (w := U ii) Try.underlying40 Try.underlying5 Try.underlying9 (cap := cp) HNP.out (Cs.mono csp (hU ii) (Nat.le_refl _))
            go_big_quiet_op
            clear hU hne hcv U ι
            show wpAnyM _ _ _ _ _ _ _ _ _
            refine mix_quiet Keeps.ext 15 rfl (by kernel_rfl) rfl ?_
            intro ι U hne hU
            go_big_quiet_op
            clear hU hne U ι
            show wpAnyM _ _ _ _ _ _ _ _ _
            refine mix_quiet Keeps.ext 16 rfl (by kernel_rfl) rfl ?_
            intro ι U hne hU
            go_big_quiet_op
            clear hU hne U ι
            show wpAnyM _ _ _ _ _ _ _ _ _
            refine mix_end (by kernel_rfl) ?_
            have x0 := zx.cell 0 rfl
            have x1 := zx.cell 1 rfl
            have x2 := zx.cell 2 rfl
            have x3 := zx.cell 3 rfl
            have x4 := zx.cell 4 rfl
            have x5 := zx.cell 5 rfl
            have x6 := zx.cell 6 rfl
            have x7 := zx.cell 7 rfl
            have xl := zx.lt
            clear csp c1 hr
            have fq0 := zr.free 0
            have gq0 := zr.cell 0 rfl
            have fq1 := zr.free 1
            have gq1 := zr.cell 1 rfl
            have fq2 := zr.free 2
            have gq2 := zr.cell 2 rfl
            have fq3 := zr.free 3
            have gq3 := zr.cell 3 rfl
            have fq4 := zr.free 4
            have gq4 := zr.cell 4 rfl
            have fq5 := zr.free 5
            have gq5 := zr.cell 5 rfl
            have fq6 := zr.free 6
            have gq6 := zr.cell 6 rfl
            have fq7 := zr.free 7
            have gq7 := zr.cell 7 rfl
            have lq := zr.lt
            go_wp2_with (first | (at_make; refine Stop.un ?_) | (at_builtin; refine Stop.un ?_) | (with_reducible refine Stop.conv 40 9 ?_) | (with_reducible refine Stop.conv 9 40 ?_))
            have RQ := zr.set8 (.int .u8 k) (.int .i64 n) (.string s) (.int .u8 k') (.int .i64 n') (.string s') (.int .i64 nu) (.int .i64 ma)
            have rq0 := RQ.cell 0 rfl
            have rq1 := RQ.cell 1 rfl
            have rq2 := RQ.cell 2 rfl
            have rq3 := RQ.cell 3 rfl
            have rq4 := RQ.cell 4 rfl
            have rq5 := RQ.cell 5 rfl
            have rq6 := RQ.cell 6 rfl
            have rq7 := RQ.cell 7 rfl
            have rql := RQ.lt
            exact bodyPost_ret (v := .tuple #[.agg #[.int .u8 k, .int .i64 n, .string s, .int .u8 k', .int .i64 n', .string s', .int .i64 nu, .int .i64 ma], .int .i64 0]) (by simp [results, Try.results25, go_sem, rq0, rq1, rq2, rq3, rq4, rq5, rq6, rq7]; done) rfl ⟨by first | rfl | (rw [HRES.out]; rfl), below_set8 BB _ _ _ _ _ _ _ _  (Nat.le_refl _)⟩
        ·
          rw [e] at HEND HT4
          have HN : Hid (takeZ kd l = none) := Lib.hid (by rw [HT4.out, if_neg (by simp)])
          clear HT4 HPT HPE HRT
          refine mix_startE 17 rfl (by kernel_rfl) ?_
          intro xq hxq
          replace zr := At.mono zr hxq
          replace hr := Rdr.below hr hxq
          replace BB := Below.next BB hxq
          clear hxq
          refine mix_quiet Keeps.ext 0 rfl (by kernel_rfl) rfl ?_
          intro ι U hne hU
          go_big_quiet_op
          clear hU hne U ι
          show wpAnyM _ _ _ _ _ _ _ _ _
          refine mix_any 1 rfl (by kernel_rfl) rfl ?_
          go_wp2_with (first | (at_make; refine Stop.un ?_) | (at_builtin; refine Stop.un ?_) | (with_reducible refine Stop.conv 40 9 ?_) | (with_reducible refine Stop.conv 9 40 ?_))
          refine (HEND.out _ hr).mono ?_
          rintro e wq5 ⟨rfl, rfl⟩
          go_wp2_with (first | (at_make; refine Stop.un ?_) | (at_builtin; refine Stop.un ?_) | (with_reducible refine Stop.conv 40 9 ?_) | (with_reducible refine Stop.conv 9 40 ?_))
          refine MixPost.mk (Ext.refl _) ?_
          refine mix_quiet Keeps.ext 2 rfl (by kernel_rfl) rfl ?_
          intro ι U hne hU
          go_big_quiet_op
          clear hU hne U ι
          show wpAnyM _ _ _ _ _ _ _ _ _
          refine mix_quiet Keeps.ext 3 rfl (by kernel_rfl) rfl ?_
          intro ι U hne hU
          go_big_quiet_op
          clear hU hne U ι
          show wpAnyM _ _ _ _ _ _ _ _ _
          refine mix_skip Keeps.ext 4 rfl (by kernel_rfl) rfl ?_
          go_big_quiet_skip
          refine wpQuiet_nil ?_
          show wpAnyM _ _ _ _ _ _ _ _ _
          refine mix_skip Keeps.ext 5 rfl (by kernel_rfl) rfl ?_
          go_big_quiet_skip
          refine wpQuiet_nil ?_
          show wpAnyM _ _ _ _ _ _ _ _ _
          refine mix_skip Keeps.ext 6 rfl (by kernel_rfl) rfl ?_
          go_big_quiet_skip
          refine wpQuiet_nil ?_
          show wpAnyM _ _ _ _ _ _ _ _ _
          refine mix_skip Keeps.ext 7 rfl (by kernel_rfl) rfl ?_
          go_big_quiet_skip
          refine wpQuiet_nil ?_
          show wpAnyM _ _ _ _ _ _ _ _ _
          refine mix_quiet Keeps.ext 8 rfl (by kernel_rfl) rfl ?_
          intro ι U hne hU
          go_big_quiet_op
          clear hU hne U ι
          show wpAnyM _ _ _ _ _ _ _ _ _
          refine mix_quiet Keeps.ext 9 rfl (by kernel_rfl) rfl ?_
          intro ι U hne hU
          go_big_quiet_op
          clear hU hne U ι
          show wpAnyM _ _ _ _ _ _ _ _ _
          refine mix_skip Keeps.ext 10 rfl (by kernel_rfl) rfl ?_
          go_big_quiet_skip
          refine wpQuiet_nil ?_
          show wpAnyM _ _ _ _ _ _ _ _ _
          refine mix_skip Keeps.ext 11 rfl (by kernel_rfl) rfl ?_
          go_big_quiet_skip
          refine wpQuiet_nil ?_
          show wpAnyM _ _ _ _ _ _ _ _ _
          refine mix_skip Keeps.ext 12 rfl (by kernel_rfl) rfl ?_
          go_big_quiet_skip
          refine wpQuiet_nil ?_
          show wpAnyM _ _ _ _ _ _ _ _ _
          refine mix_skip Keeps.ext 13 rfl (by kernel_rfl) rfl ?_
          go_big_quiet_skip
          refine wpQuiet_nil ?_
          show wpAnyM _ _ _ _ _ _ _ _ _
          refine mix_skip Keeps.ext 14 rfl (by kernel_rfl) rfl ?_
          go_big_quiet_skip
          refine wpQuiet_nil ?_
          show wpAnyM _ _ _ _ _ _ _ _ _
          refine mix_skip Keeps.ext 15 rfl (by kernel_rfl) rfl ?_
          go_big_quiet_skip
          refine wpQuiet_nil ?_
          show wpAnyM _ _ _ _ _ _ _ _ _
          refine mix_quiet Keeps.ext 16 rfl (by kernel_rfl) rfl ?_
          intro ι U hne hU
          go_big_quiet_op
          clear hU hne U ι
          show wpAnyM _ _ _ _ _ _ _ _ _
          refine mix_end (by kernel_rfl) ?_
          clear zx hr HEND
          have HRES := Lib.hid (HRN.out HN.out)
          clear HRN HRS HN
          have fq0 := zr.free 0
          have gq0 := zr.cell 0 rfl
          have fq1 := zr.free 1
          have gq1 := zr.cell 1 rfl
          have fq2 := zr.free 2
          have gq2 := zr.cell 2 rfl
          have fq3 := zr.free 3
          have gq3 := zr.cell 3 rfl
          have fq4 := zr.free 4
          have gq4 := zr.cell 4 rfl
          have fq5 := zr.free 5
          have gq5 := zr.cell 5 rfl
          have fq6 := zr.free 6
          have gq6 := zr.cell 6 rfl
          have fq7 := zr.free 7
          have gq7 := zr.cell 7 rfl
          have lq := zr.lt
          go_wp2_with (first | (at_make; refine Stop.un ?_) | (at_builtin; refine Stop.un ?_) | (with_reducible refine Stop.conv 40 9 ?_) | (with_reducible refine Stop.conv 9 40 ?_))
          have RQ := zr.set8 (.int .u8 0) (.int .i64 0) (.string ⟨#[]⟩) (.int .u8 0) (.int .i64 0) (.string ⟨#[]⟩) (.int .i64 0) (.int .i64 0)
          have rq0 := RQ.cell 0 rfl
          have rq1 := RQ.cell 1 rfl
          have rq2 := RQ.cell 2 rfl
          have rq3 := RQ.cell 3 rfl
          have rq4 := RQ.cell 4 rfl
          have rq5 := RQ.cell 5 rfl
          have rq6 := RQ.cell 6 rfl
          have rq7 := RQ.cell 7 rfl
          have rql := RQ.lt
          exact bodyPost_ret (v := .tuple #[.agg #[.int .u8 0, .int .i64 0, .string ⟨#[]⟩, .int .u8 0, .int .i64 0, .string ⟨#[]⟩, .int .i64 0, .int .i64 0], .int .i64 6]) (by simp [results, Try.results25, go_sem, rq0, rq1, rq2, rq3, rq4, rq5, rq6, rq7]; done) rfl ⟨by first | rfl | (rw [HRES.out]; rfl), below_set8 BB _ _ _ _ _ _ _ _  (Nat.le_refl _)⟩
theorem rztake_any (kd : Int) (ao : Option Addr) (m cap : Nat) (l : List UInt8) (w : World) (hc : Cs w ao (bcells l)) (hm : l.length = m) (hl : m ≤ 4000000000) (hlc : m ≤ cap) :
    Calls Try.prog 25 #[.int .u8 kd, .slice ao m cap] w (fun e w' => e = .returned (.tuple #[(tzZ kd l).val, .int .i64 (tzE kd l)]) ∧ Below w.heap.size w w') := by
  cases hk : kindB kd with
  | true => exact rztake_ok kd ao m cap l w hc hm hl hlc hk
  | false => exact rztake_bad kd ao m cap l w hk
end Go.Proofs.Ytdpmaocbfmgmlaa
