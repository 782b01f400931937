/- What the reference's Take returns. -/
import Derived.Test.YtdpmaocbfmgmlaaCTake
import Derived.Test.YtdpmaocbfmgmlaaRRdrT
set_option linter.unusedVariables false
set_option linter.unusedSimpArgs false
namespace Go.Proofs.Ytdpmaocbfmgmlaa
open Go.RowKit
/-- A value, bytes in memory of the call's own, and a kind. -/
def RetR (w : World) (o : Option (V × List UInt8)) : Ending → World → Prop := fun e w' =>
  ∃ (ao : Option Addr) (n cap : Nat), (tkL o).length = n ∧ n ≤ cap ∧ n ≤ 140737488355328 ∧ e = .returned (.tuple #[(tkV o).val, .slice ao n cap, .int .i64 (tkE o)]) ∧ Cs w' ao (bcells (tkL o)) ∧ Below w.heap.size w w' ∧ ∀ a, ao = some a → w.heap.size ≤ a.block ∧ a.block < w'.heap.size
theorem rrightx (a : V) (w : World) : Calls Try.prog 64 #[.agg #[.int .u8 a.k, .int .i64 a.n, .string a.s]] w (fun e w' => e = .returned (.bool (rightB a)) ∧ Below w.heap.size w w') := rright_any a w
set_option maxRecDepth 100000 in
set_option maxHeartbeats 4000000 in
theorem rtake_any (ao : Option Addr) (m cap : Nat) (l : List UInt8) (w : World) (hc : Cs w ao (bcells l)) (hm : l.length = m) (hl : m ≤ 140737488350000) (hlc : m ≤ cap) :
    Calls Try.prog 45 #[.slice ao m cap] w (RetR w (takeV l)) := by
  match l, hm, hc with
  | [], hm, hc =>
    obtain rfl : m = 0 := by simpa using hm.symm
    have e : takeV [] = none := rfl
    rw [e]
    clear e
    go_enter Try.func45, Try.ntmps45
    go_wp2_with (first | (at_make; refine Stop.un ?_) | (at_builtin; refine Stop.un ?_) | (with_reducible refine Stop.conv 40 9 ?_) | (with_reducible refine Stop.conv 9 40 ?_))
    exact bodyPost_ret (v := .tuple #[V.zero.val, .slice none 0 0, .int .i64 6]) (by simp [results, Try.results45, go_sem, V.zero, V.val]; rfl) rfl ⟨none, 0, 0, rfl, Nat.le_refl _, by omega, rfl, Cs.nil _ _, by simpa using (Below.refl _ _).alloc (Nat.le_refl _) _, fun _ h => by cases h⟩
  | c :: r, hm, hc =>
    have hmr : r.length + 1 = m := by simpa using hm
    have Hm := Lib.hid hm
    have HR := Lib.hid hmr
    obtain ⟨b, o, rfl⟩ := hc.addr (by simp [bcells])
    have hcell := hc.at (j := 0) (u := .int .u8 (c.toNat : Int)) (by simp [bcells])
    rw [Nat.add_zero] at hcell
    have hT : Hid (takeV (c :: r) = if (takeK c.toNat r).2.2 || !rightB (takeK c.toNat r).1 then none else some ((takeK c.toNat r).1, (takeK c.toNat r).2.1)) := Lib.hid rfl
    have hD := Lib.hid (takeK_drop c.toNat r)
    have hK : Hid (takeK c.toNat r = if c.toNat = 1 ∨ c.toNat = 2 then (⟨(c.toNat : Nat), zag (rdN r), ⟨#[]⟩⟩, rdRest r, rdBad r) else if c.toNat = 3 then (⟨3, 0, strOf (rdT r)⟩, rdTRest r, rdTBad r) else (⟨(c.toNat : Nat), 0, ⟨#[]⟩⟩, r, false)) := Lib.hid rfl
    generalize takeK c.toNat r = t at hT hD hK
    generalize takeV (c :: r) = res at hT ⊢
    have hC := c.toNat_lt
    have hcd := hc.drop 1
    rw [show (bcells (c :: r)).drop 1 = bcells r from by simp [bcells]] at hcd
    have hm0 : 1 ≤ m := by omega
    have hm1 : ((m : Int) == 0) = false := by simp; omega
    have hca : (if cap = 1 then (some ⟨b, o, none⟩ : Option Addr) else some ⟨b, o + 1, none⟩) = (if cap = 1 then some ⟨b, o, none⟩ else some ⟨b, o + 1, none⟩) := rfl
    clear hca
    generalize hcn : c.toNat = cn at *
    have HCN := Lib.hid hcn
    obtain ⟨v, rest, bad⟩ := t
    simp only at hT hD
    clear hm hmr hcn
    go_enter Try.func45, Try.ntmps45
    have hz0 := VAt.new w ⟨0, 0, ⟨#[]⟩⟩
    have hb0 : Below w.heap.size w (w.alloc (.cells #[.int .u8 0, .int .i64 0, .string ⟨#[]⟩] 24)) := (Below.refl _ _).alloc (Nat.le_refl _) _
    have hc0 := hc.mono hb0 (Nat.le_refl _)
    have hcell0 := hc0.at (j := 0) (u := .int .u8 (cn : Int)) (by rw [← HCN.out]; simp [bcells])
    rw [Nat.add_zero] at hcell0
    go_upto_region 4 with fail
    go_cut [6] (fun x wx => ∃ g, x = .pointer (some ⟨g, 0, none⟩) ∧ w.heap.size + 1 < g ∧ Rdr 64 (w.heap.size + 2) wx.heap.size wx g r false ∧ VAt wx w.heap.size V.zero ∧ VAt wx (w.heap.size + 1) ⟨cn, 0, ⟨#[]⟩⟩ ∧ Below w.heap.size w wx)
    case first =>
      have hz1 := hz0.mono ((Below.refl _ _).alloc (Nat.le_refl _) (.cells #[.int .u8 cn, .int .i64 0, .string ⟨#[]⟩] 24))
      have hx1 := VAt.new (w.alloc (.cells #[.int .u8 0, .int .i64 0, .string ⟨#[]⟩] 24)) ⟨cn, 0, ⟨#[]⟩⟩
      have hb1 := hb0.next ((Below.refl _ _).alloc (Nat.le_refl _) (.cells #[.int .u8 cn, .int .i64 0, .string ⟨#[]⟩] 24))
      have hs1 : ((w.alloc (.cells #[.int .u8 0, .int .i64 0, .string ⟨#[]⟩] 24)).alloc (.cells #[.int .u8 cn, .int .i64 0, .string ⟨#[]⟩] 24)).heap.size = w.heap.size + 2 := by simp
      have hs0 : (w.alloc (.cells #[.int .u8 0, .int .i64 0, .string ⟨#[]⟩] 24)).heap.size = w.heap.size + 1 := by simp
      rw [hs0] at hx1
      have HS1 := Lib.hid hs1
      clear hs0 hs1
      have hb2 := (Below.refl ((w.alloc (.cells #[.int .u8 0, .int .i64 0, .string ⟨#[]⟩] 24)).alloc (.cells #[.int .u8 cn, .int .i64 0, .string ⟨#[]⟩] 24)).heap.size _).alloc (Nat.le_refl _) (.cells #[] 5)
      have hO : OwnB w (((w.alloc (.cells #[.int .u8 0, .int .i64 0, .string ⟨#[]⟩] 24)).alloc (.cells #[.int .u8 cn, .int .i64 0, .string ⟨#[]⟩] 24)).alloc (.cells #[] 5)) (.slice (some ⟨w.heap.size + 1 + 1, 0, none⟩) 0 0) 0 [] := by
        have := Own.block (e := 5) (size := 1) (n := 0) (cs := #[]) hb1 rfl (by decide)
        rw [OwnB]; simpa [bcells] using this
      replace hz1 := hz1.mono hb2
      replace hx1 := hx1.mono hb2
      have hc2 := (hc.mono hb1 (Nat.le_refl _)).mono hb2 (Nat.le_refl _)
      have hsz : (((w.alloc (.cells #[.int .u8 0, .int .i64 0, .string ⟨#[]⟩] 24)).alloc (.cells #[.int .u8 cn, .int .i64 0, .string ⟨#[]⟩] 24)).alloc (.cells #[] 5)).heap.size = w.heap.size + 3 := by simp
      have HSZ := Lib.hid hsz
      clear hsz hb2 hc0 hb0 hb1 hz0 hcd
      go_wp2_with (first | (at_make; refine Stop.un ?_) | (at_builtin; refine Stop.un ?_) | (with_reducible refine Stop.conv 40 9 ?_) | (with_reducible refine Stop.conv 9 40 ?_) | (with_reducible refine Stop.slice ?_))
      refine Stop.mk (wpList_cutB (some ⟨b, o, none⟩) m cap 1 rfl rfl rfl hm0 hlc hc2 Hm.out ?_)
      intro aq kq
      rw [show (c :: r).drop 1 = r from rfl] at kq
      go_wp2_with (first | (at_make; refine Stop.un ?_) | (at_builtin; refine Stop.un ?_) | (with_reducible refine Stop.conv 40 9 ?_) | (with_reducible refine Stop.conv 9 40 ?_))
      refine Stop.mk (app_bsx w _ _ rfl rfl hO rfl rfl (by have := HR.out; omega) kq (by omega) ?_)
      intro ao4 cap4 w4 O4 g4 p4
      rw [List.nil_append] at O4
      rw [Nat.zero_add] at O4 p4 ⊢
      have Z4 := hz1.grown g4 (fun e => by simp [Value.ownBlock] at e; omega)
      have X4 := hx1.grown g4 (fun e => by simp [Value.ownBlock] at e)
      have hs4 := g4.size
      have P4 : Hid (∀ k, (Value.slice ao4 (m - 1) cap4).ownBlock = some k → w.heap.size + 2 ≤ k ∧ k < w4.heap.size) := Lib.hid (fun k hk => ⟨by
        rcases p4 k hk with h | h
        · simp [Value.ownBlock] at h; omega
        · rw [HSZ.out] at h; omega, Own.lt O4 k hk⟩)
      have hle4 := owns_le O4.1
      rw [HSZ.out] at hs4
      have HS4 := Lib.hid hs4
      clear p4 g4 hO hz1 hx1 hc2 kq hs4
      go_wp2_with (first | (at_make; refine Stop.un ?_) | (at_builtin; refine Stop.un ?_) | (with_reducible refine Stop.conv 40 9 ?_) | (with_reducible refine Stop.conv 9 40 ?_))
      go_meet
      refine ⟨w4.heap.size, rfl, by have := HS4.out; omega, ⟨ao4, m - 1, cap4, _root_.Go.heap_alloc_new w4 _, by have := HR.out; omega, hle4, by omega, (Own.cs O4).alloc _, ⟨by have := HS4.out; omega, by simp⟩, ?_⟩, Z4.mono ((Below.refl _ _).alloc (Nat.le_refl _) _), X4.mono ((Below.refl _ _).alloc (Nat.le_refl _) _), (Own.below O4).next ((Below.refl _ _).alloc (Nat.le_refl _) _)⟩
      intro a ha
      have := P4.out a.block (by subst ha; rfl)
      refine ⟨by omega, by omega, by simp; omega⟩
    case rest =>
      obtain ⟨g, rfl, hg, hr2, Z2, hX, B2⟩ := hcut
      obtain ⟨wo, rfl⟩ : ∃ wo : World, wo = wc := ⟨_, rfl⟩
      have HG := Lib.hid (hr2.lt)
      clear hcell hcd hz0 hb0 hc0
      have HZ : Hid (w.heap.size + 1 < wo.heap.size) := Lib.hid (by have := HG.out; omega)
      have HGG := Lib.hid hg
      obtain ⟨x0, x1, x2, xz⟩ := hX.open_
      have hk := hK.out
      clear hK hg
      by_cases h12 : cn = 1 ∨ cn = 2
      · rw [if_pos h12] at hk
        simp only [Prod.mk.injEq] at hk
        obtain ⟨hv0, hrest0, hbad0⟩ := hk
        have HV := Lib.hid hv0
        have HRE := Lib.hid hrest0
        have HBA := Lib.hid hbad0
        clear hv0 hrest0 hbad0
        rcases h12 with rfl | rfl
        all_goals
          have hk := True.intro
          go_wp2_with (first | (at_make; refine Stop.un ?_) | (at_builtin; refine Stop.un ?_) | (with_reducible refine Stop.conv 40 9 ?_) | (with_reducible refine Stop.conv 9 40 ?_))
          refine (rrint_any _ _ _ g r false _ hr2).mono ?_
          rintro e w3 ⟨rfl, hr3, hg3⟩
          have HS3 := Lib.hid hg3.size
          have X3 := hX.grown hg3 (fun e => by injection e with e; have := HGG.out; omega)
          have Z3 := Z2.grown hg3 (fun e => by injection e with e; have := HGG.out; omega)
          have B3 := B2.one hg3 (by have := HGG.out; omega) (Nat.le_refl _)
          clear x0 x1 x2 xz
          obtain ⟨x0, x1, x2, xz⟩ := X3.open_
          obtain ⟨y0, y1, y2⟩ := X3.free
          simp only [Bool.false_or] at hr3
          rw [← HRE.out, ← HBA.out] at hr3
          have X : VAt (w3.setCell ⟨w.heap.size + 1, 1, none⟩ (.int .i64 (zag (rdN r)))) (w.heap.size + 1) v := by rw [HV.out]; exact X3.set1 _
          have R := hr3.other (grown_set w3 (w.heap.size + 1) 1 (.int .i64 (zag (rdN r)))) (.inl (by omega))
          have Z := Z3.off (p := ⟨w.heap.size + 1, 1, none⟩) (by simp) (.int .i64 (zag (rdN r)))
          have B := B3.setCell (p := ⟨w.heap.size + 1, 1, none⟩) (by simp) (.int .i64 (zag (rdN r)))
          have HX := Lib.hid X
          have HR3 := Lib.hid R
          have HZ3 := Lib.hid Z
          have HB3 := Lib.hid B
          clear hr3 Z3 B3 X3 hg3 X R Z B hX hr2 Z2 B2
          go_upto_if 34 with fail
          have X := HX.out
          have R := HR3.out
          have Z := HZ3.out
          have B := HB3.out
          clear x0 x1 x2 xz y0 y1 y2 HX HR3 HZ3 HB3
          clear hk
          obtain ⟨x0, x1, x2, xz⟩ := X.open_
          obtain ⟨y0, y1, y2⟩ := Z.free
          obtain ⟨z0, z1, z2, zz⟩ := Z.open_
          obtain ⟨ao, n, cap, hh, hl2, hn, hcap, hc2, HB, hne⟩ := R
          have r0 := cell_of hh 0
          have r1 := cell_of hh 1
          simp at r0 r1
          have HH := Lib.hid hh
          have HL2 := Lib.hid hl2
          clear hh hl2
          have c2 := Lib.hid (fun W => rrightx v W)
          have hT2 := hT.out
          cases bad with
          | true =>
            simp only [Bool.true_or, if_true] at hT2
            obtain rfl := hT2
            go_wp2_with (first | (at_make; refine Stop.un ?_) | (at_builtin; refine Stop.un ?_) | (with_reducible refine Stop.conv 40 9 ?_) | (with_reducible refine Stop.conv 9 40 ?_))
            exact bodyPost_ret (v := .tuple #[V.zero.val, .slice none 0 0, .int .i64 6]) (by simp [results, Try.results45, go_sem, V.zero, V.val, z0, z1, z2, y0, y1, y2]; rfl) rfl ⟨none, 0, 0, rfl, Nat.le_refl _, by omega, rfl, Cs.nil _ _, by first | exact B | exact below_put B (Nat.le_refl _) _ _ _, fun _ h => by cases h⟩
          | false =>
            cases hr : rightB v with
            | false =>
              simp only [hr, Bool.not_false, Bool.or_true, if_true] at hT2
              obtain rfl := hT2
              rw [hr] at c2
              go_wp2_with (first | (at_make; refine Stop.un ?_) | (at_builtin; refine Stop.un ?_) | (with_reducible refine Stop.conv 40 9 ?_) | (with_reducible refine Stop.conv 9 40 ?_))
              refine (c2.out _).mono ?_
              rintro e w5 ⟨rfl, b5⟩
              have B5 := B.next b5
              replace Z := Z.mono b5
              clear y0 y1 y2 z0 z1 z2 zz B b5 r0 r1
              obtain ⟨y0, y1, y2⟩ := Z.free
              obtain ⟨z0, z1, z2, zz⟩ := Z.open_
              go_wp2_with (first | (at_make; refine Stop.un ?_) | (at_builtin; refine Stop.un ?_) | (with_reducible refine Stop.conv 40 9 ?_) | (with_reducible refine Stop.conv 9 40 ?_))
              exact bodyPost_ret (v := .tuple #[V.zero.val, .slice none 0 0, .int .i64 6]) (by simp [results, Try.results45, go_sem, V.zero, V.val, z0, z1, z2, y0, y1, y2]; rfl) rfl ⟨none, 0, 0, rfl, Nat.le_refl _, by omega, rfl, Cs.nil _ _, by first | exact B5 | exact below_put B5 (Nat.le_refl _) _ _ _, fun _ h => by cases h⟩
            | true =>
              simp only [hr, Bool.not_true, Bool.or_false, Bool.false_eq_true, if_false] at hT2
              obtain rfl := hT2
              rw [hr] at c2
              go_wp2_with (first | (at_make; refine Stop.un ?_) | (at_builtin; refine Stop.un ?_) | (with_reducible refine Stop.conv 40 9 ?_) | (with_reducible refine Stop.conv 9 40 ?_))
              refine (c2.out _).mono ?_
              rintro e w5 ⟨rfl, b5⟩
              have B5 := B.next b5
              replace Z := Z.mono b5
              replace X := X.mono b5
              replace hc2 := hc2.mono b5 (Nat.le_refl _)
              replace r0 := Ext.cell b5 r0
              have hgl := Nat.lt_of_lt_of_le (heap_lt HH.out) b5.size
              have HS5 : Hid (wo.heap.size ≤ w5.heap.size) := Lib.hid (by have h1 := HS3.out; have h2 := b5.size; (try simp at h2); omega)
              clear y0 y1 y2 z0 z1 z2 zz B b5 x0 x1 x2 xz c2 hT r1
              obtain ⟨x0, x1, x2, xz⟩ := X.open_
              have hnq : some (w.heap.size + 1) ≠ some w.heap.size := by intro e; injection e with e; omega
              have hng : some g ≠ some w.heap.size := by intro e; injection e with e; have := HGG.out; omega
              go_wp2_with (first | (at_make; refine Stop.un ?_) | (at_builtin; refine Stop.un ?_) | (with_reducible refine Stop.conv 40 9 ?_) | (with_reducible refine Stop.conv 9 40 ?_))
              refine mix_startX (w5.heap.size) (some w.heap.size) 8 rfl (by kernel_rfl) ?_
              intro xq hxq
              have hxs := hxq.size
              replace x0 := Ext.cell hxq x0
              replace x1 := Ext.cell hxq x1
              replace x2 := Ext.cell hxq x2
              replace r0 := Ext.cell hxq r0
              replace Z := Z.mono hxq
              replace B5 := B5.next hxq
              replace hc2 := hc2.mono hxq (Nat.le_refl _)
              have HXS := Lib.hid hxs
              clear hxq hxs
              refine mix_quiet (Keeps.rx (w5.heap.size) (some w.heap.size)) 0 rfl (by kernel_rfl) rfl ?_
              intro ι U hne hU
              have hcv := fun ii => And.intro (RX.cell (hU ii) xz hnq x0) (And.intro (RX.cell (hU ii) xz hnq x1) (RX.cell (hU ii) xz hnq x2))
              go_big_quiet_op
              clear hU hne hcv U ι
              show wpAnyM _ _ _ _ _ _ _ _ _
              refine mix_quiet (Keeps.rx (w5.heap.size) (some w.heap.size)) 1 rfl (by kernel_rfl) rfl ?_
              intro ι U hne hU
              go_big_quiet_op
              clear hU hne U ι
              show wpAnyM _ _ _ _ _ _ _ _ _
              refine mix_quiet (Keeps.rx (w5.heap.size) (some w.heap.size)) 2 rfl (by kernel_rfl) rfl ?_
              intro ι U hne hU
              have hcv := fun ii => RX.cell (hU ii) hgl hng r0
              go_big_quiet_op
              clear hU hne hcv U ι
              show wpAnyM _ _ _ _ _ _ _ _ _
              refine mix_quiet (Keeps.rx (w5.heap.size) (some w.heap.size)) 3 rfl (by kernel_rfl) rfl ?_
              intro ι U hne hU
              go_big_quiet_op
              clear hU hne U ι
              show wpAnyM _ _ _ _ _ _ _ _ _
              refine mix_quiet (Keeps.rx (w5.heap.size) (some w.heap.size)) 4 rfl (by kernel_rfl) rfl ?_
              intro ι U hne hU
              have hcv := fun ii => RX.cell (hU ii) hgl hng r0
              go_big_quiet_op
              clear hU hne hcv U ι
              show wpAnyM _ _ _ _ _ _ _ _ _
              clear x0 x1 x2 xz r0
              obtain ⟨y0, y1, y2⟩ := Z.free
              obtain ⟨z0, z1, z2, zz⟩ := Z.open_
              refine mix_any 5 rfl (by kernel_rfl) rfl ?_
              go_wp2_with (first | (at_make; refine Stop.un ?_) | (at_builtin; refine Stop.un ?_) | (with_reducible refine Stop.conv 40 9 ?_) | (with_reducible refine Stop.conv 9 40 ?_))
              refine MixPost.mk (RX.put _ _ _ _ _) ?_
              refine mix_quiet (Keeps.rx (w5.heap.size) (some w.heap.size)) 6 rfl (by kernel_rfl) rfl ?_
              intro ι U hne hU
              go_big_quiet_op
              clear hU hne U ι
              show wpAnyM _ _ _ _ _ _ _ _ _
              refine mix_quiet (Keeps.rx (w5.heap.size) (some w.heap.size)) 7 rfl (by kernel_rfl) rfl ?_
              intro ι U hne hU
              go_big_quiet_op
              clear hU hne U ι
              show wpAnyM _ _ _ _ _ _ _ _ _
              refine mix_end (by kernel_rfl) ?_
              have Z9 := Z.put v.k v.n v.s
              have C9 := Cs.put hc2 v.k v.n v.s (g := w.heap.size) (fun a ha => by have := (hne a ha).2.1; omega)
              have B9 := below_put B5 (Nat.le_refl _) v.k v.n v.s
              obtain ⟨q0, q1, q2, qz⟩ := Z9.open_
              simp only at q0 q1 q2
              go_wp2_with (first | (at_make; refine Stop.un ?_) | (at_builtin; refine Stop.un ?_) | (with_reducible refine Stop.conv 40 9 ?_) | (with_reducible refine Stop.conv 9 40 ?_))
              exact bodyPost_ret (v := .tuple #[v.val, .slice ao n cap, .int .i64 0]) (by simp [results, Try.results45, go_sem, V.val, q0, q1, q2]) rfl ⟨ao, n, cap, HL2.out, hn, hcap, rfl, C9, B9, fun a ha => ⟨by have := (hne a ha).2.1; omega, by have := (hne a ha).2.2; have := HS5.out; have := HXS.out; simp; omega⟩⟩
      · rw [if_neg h12] at hk
        have hn1' : ¬ (cn : Int) = 1 := by omega
        have hn2' : ¬ (cn : Int) = 2 := by omega
        clear h12
        by_cases h3 : cn = 3
        · rw [if_pos h3] at hk
          simp only [Prod.mk.injEq] at hk
          obtain ⟨hv0, hrest0, hbad0⟩ := hk
          have HV := Lib.hid hv0
          have HRE := Lib.hid hrest0
          have HBA := Lib.hid hbad0
          clear hv0 hrest0 hbad0
          subst h3
          have hk := True.intro
          clear hn1' hn2'
          go_wp2_with (first | (at_make; refine Stop.un ?_) | (at_builtin; refine Stop.un ?_) | (with_reducible refine Stop.conv 40 9 ?_) | (with_reducible refine Stop.conv 9 40 ?_))
          refine (rrtext_any _ _ _ g r false _ hr2).mono ?_
          rintro e w3 ⟨rfl, hr3, hg3⟩
          have HS3 := Lib.hid hg3.size
          have X3 := hX.grown hg3 (fun e => by injection e with e; have := HGG.out; omega)
          have Z3 := Z2.grown hg3 (fun e => by injection e with e; have := HGG.out; omega)
          have B3 := B2.one hg3 (by have := HGG.out; omega) (Nat.le_refl _)
          clear x0 x1 x2 xz
          obtain ⟨x0, x1, x2, xz⟩ := X3.open_
          obtain ⟨y0, y1, y2⟩ := X3.free
          simp only [Bool.false_or] at hr3
          rw [← HRE.out, ← HBA.out] at hr3
          have X : VAt (w3.setCell ⟨w.heap.size + 1, 2, none⟩ (.string (strOf (rdT r)))) (w.heap.size + 1) v := by rw [HV.out]; exact X3.set2 _
          have R := hr3.other (grown_set w3 (w.heap.size + 1) 2 (.string (strOf (rdT r)))) (.inl (by omega))
          have Z := Z3.off (p := ⟨w.heap.size + 1, 2, none⟩) (by simp) (.string (strOf (rdT r)))
          have B := B3.setCell (p := ⟨w.heap.size + 1, 2, none⟩) (by simp) (.string (strOf (rdT r)))
          have HX := Lib.hid X
          have HR3 := Lib.hid R
          have HZ3 := Lib.hid Z
          have HB3 := Lib.hid B
          clear hr3 Z3 B3 X3 hg3 X R Z B hX hr2 Z2 B2
          go_upto_region 9 with fail
          have X := HX.out
          have R := HR3.out
          have Z := HZ3.out
          have B := HB3.out
          clear x0 x1 x2 xz y0 y1 y2 HX HR3 HZ3 HB3
          clear hk
          obtain ⟨x0, x1, x2, xz⟩ := X.open_
          obtain ⟨y0, y1, y2⟩ := Z.free
          obtain ⟨z0, z1, z2, zz⟩ := Z.open_
          obtain ⟨ao, n, cap, hh, hl2, hn, hcap, hc2, HB, hne⟩ := R
          have r0 := cell_of hh 0
          have r1 := cell_of hh 1
          simp at r0 r1
          have HH := Lib.hid hh
          have HL2 := Lib.hid hl2
          clear hh hl2
          have c2 := Lib.hid (fun W => rrightx v W)
          have hT2 := hT.out
          cases bad with
          | true =>
            simp only [Bool.true_or, if_true] at hT2
            obtain rfl := hT2
            go_wp2_with (first | (at_make; refine Stop.un ?_) | (at_builtin; refine Stop.un ?_) | (with_reducible refine Stop.conv 40 9 ?_) | (with_reducible refine Stop.conv 9 40 ?_))
            exact bodyPost_ret (v := .tuple #[V.zero.val, .slice none 0 0, .int .i64 6]) (by simp [results, Try.results45, go_sem, V.zero, V.val, z0, z1, z2, y0, y1, y2]; rfl) rfl ⟨none, 0, 0, rfl, Nat.le_refl _, by omega, rfl, Cs.nil _ _, by first | exact B | exact below_put B (Nat.le_refl _) _ _ _, fun _ h => by cases h⟩
          | false =>
            cases hr : rightB v with
            | false =>
              simp only [hr, Bool.not_false, Bool.or_true, if_true] at hT2
              obtain rfl := hT2
              rw [hr] at c2
              go_wp2_with (first | (at_make; refine Stop.un ?_) | (at_builtin; refine Stop.un ?_) | (with_reducible refine Stop.conv 40 9 ?_) | (with_reducible refine Stop.conv 9 40 ?_))
              refine (c2.out _).mono ?_
              rintro e w5 ⟨rfl, b5⟩
              have B5 := B.next b5
              replace Z := Z.mono b5
              clear y0 y1 y2 z0 z1 z2 zz B b5 r0 r1
              obtain ⟨y0, y1, y2⟩ := Z.free
              obtain ⟨z0, z1, z2, zz⟩ := Z.open_
              go_wp2_with (first | (at_make; refine Stop.un ?_) | (at_builtin; refine Stop.un ?_) | (with_reducible refine Stop.conv 40 9 ?_) | (with_reducible refine Stop.conv 9 40 ?_))
              exact bodyPost_ret (v := .tuple #[V.zero.val, .slice none 0 0, .int .i64 6]) (by simp [results, Try.results45, go_sem, V.zero, V.val, z0, z1, z2, y0, y1, y2]; rfl) rfl ⟨none, 0, 0, rfl, Nat.le_refl _, by omega, rfl, Cs.nil _ _, by first | exact B5 | exact below_put B5 (Nat.le_refl _) _ _ _, fun _ h => by cases h⟩
            | true =>
              simp only [hr, Bool.not_true, Bool.or_false, Bool.false_eq_true, if_false] at hT2
              obtain rfl := hT2
              rw [hr] at c2
              go_wp2_with (first | (at_make; refine Stop.un ?_) | (at_builtin; refine Stop.un ?_) | (with_reducible refine Stop.conv 40 9 ?_) | (with_reducible refine Stop.conv 9 40 ?_))
              refine (c2.out _).mono ?_
              rintro e w5 ⟨rfl, b5⟩
              have B5 := B.next b5
              replace Z := Z.mono b5
              replace X := X.mono b5
              replace hc2 := hc2.mono b5 (Nat.le_refl _)
              replace r0 := Ext.cell b5 r0
              have hgl := Nat.lt_of_lt_of_le (heap_lt HH.out) b5.size
              have HS5 : Hid (wo.heap.size ≤ w5.heap.size) := Lib.hid (by have h1 := HS3.out; have h2 := b5.size; (try simp at h2); omega)
              clear y0 y1 y2 z0 z1 z2 zz B b5 x0 x1 x2 xz c2 hT r1
              obtain ⟨x0, x1, x2, xz⟩ := X.open_
              have hnq : some (w.heap.size + 1) ≠ some w.heap.size := by intro e; injection e with e; omega
              have hng : some g ≠ some w.heap.size := by intro e; injection e with e; have := HGG.out; omega
              go_wp2_with (first | (at_make; refine Stop.un ?_) | (at_builtin; refine Stop.un ?_) | (with_reducible refine Stop.conv 40 9 ?_) | (with_reducible refine Stop.conv 9 40 ?_))
              refine mix_startX (w5.heap.size) (some w.heap.size) 8 rfl (by kernel_rfl) ?_
              intro xq hxq
              have hxs := hxq.size
              replace x0 := Ext.cell hxq x0
              replace x1 := Ext.cell hxq x1
              replace x2 := Ext.cell hxq x2
              replace r0 := Ext.cell hxq r0
              replace Z := Z.mono hxq
              replace B5 := B5.next hxq
              replace hc2 := hc2.mono hxq (Nat.le_refl _)
              have HXS := Lib.hid hxs
              clear hxq hxs
              refine mix_quiet (Keeps.rx (w5.heap.size) (some w.heap.size)) 0 rfl (by kernel_rfl) rfl ?_
              intro ι U hne hU
              have hcv := fun ii => And.intro (RX.cell (hU ii) xz hnq x0) (And.intro (RX.cell (hU ii) xz hnq x1) (RX.cell (hU ii) xz hnq x2))
              go_big_quiet_op
              clear hU hne hcv U ι
              show wpAnyM _ _ _ _ _ _ _ _ _
              refine mix_quiet (Keeps.rx (w5.heap.size) (some w.heap.size)) 1 rfl (by kernel_rfl) rfl ?_
              intro ι U hne hU
              go_big_quiet_op
              clear hU hne U ι
              show wpAnyM _ _ _ _ _ _ _ _ _
              refine mix_quiet (Keeps.rx (w5.heap.size) (some w.heap.size)) 2 rfl (by kernel_rfl) rfl ?_
              intro ι U hne hU
              have hcv := fun ii => RX.cell (hU ii) hgl hng r0
              go_big_quiet_op
              clear hU hne hcv U ι
              show wpAnyM _ _ _ _ _ _ _ _ _
              refine mix_quiet (Keeps.rx (w5.heap.size) (some w.heap.size)) 3 rfl (by kernel_rfl) rfl ?_
              intro ι U hne hU
              go_big_quiet_op
              clear hU hne U ι
              show wpAnyM _ _ _ _ _ _ _ _ _
              refine mix_quiet (Keeps.rx (w5.heap.size) (some w.heap.size)) 4 rfl (by kernel_rfl) rfl ?_
              intro ι U hne hU
              have hcv := fun ii => RX.cell (hU ii) hgl hng r0
              go_big_quiet_op
              clear hU hne hcv U ι
              show wpAnyM _ _ _ _ _ _ _ _ _
              clear x0 x1 x2 xz r0
              obtain ⟨y0, y1, y2⟩ := Z.free
              obtain ⟨z0, z1, z2, zz⟩ := Z.open_
              refine mix_any 5 rfl (by kernel_rfl) rfl ?_
              go_wp2_with (first | (at_make; refine Stop.un ?_) | (at_builtin; refine Stop.un ?_) | (with_reducible refine Stop.conv 40 9 ?_) | (with_reducible refine Stop.conv 9 40 ?_))
              refine MixPost.mk (RX.put _ _ _ _ _) ?_
              refine mix_quiet (Keeps.rx (w5.heap.size) (some w.heap.size)) 6 rfl (by kernel_rfl) rfl ?_
              intro ι U hne hU
              go_big_quiet_op
              clear hU hne U ι
              show wpAnyM _ _ _ _ _ _ _ _ _
              refine mix_quiet (Keeps.rx (w5.heap.size) (some w.heap.size)) 7 rfl (by kernel_rfl) rfl ?_
              intro ι U hne hU
              go_big_quiet_op
              clear hU hne U ι
              show wpAnyM _ _ _ _ _ _ _ _ _
              refine mix_end (by kernel_rfl) ?_
              have Z9 := Z.put v.k v.n v.s
              have C9 := Cs.put hc2 v.k v.n v.s (g := w.heap.size) (fun a ha => by have := (hne a ha).2.1; omega)
              have B9 := below_put B5 (Nat.le_refl _) v.k v.n v.s
              obtain ⟨q0, q1, q2, qz⟩ := Z9.open_
              simp only at q0 q1 q2
              go_wp2_with (first | (at_make; refine Stop.un ?_) | (at_builtin; refine Stop.un ?_) | (with_reducible refine Stop.conv 40 9 ?_) | (with_reducible refine Stop.conv 9 40 ?_))
              exact bodyPost_ret (v := .tuple #[v.val, .slice ao n cap, .int .i64 0]) (by simp [results, Try.results45, go_sem, V.val, q0, q1, q2]) rfl ⟨ao, n, cap, HL2.out, hn, hcap, rfl, C9, B9, fun a ha => ⟨by have := (hne a ha).2.1; omega, by have := (hne a ha).2.2; have := HS5.out; have := HXS.out; simp; omega⟩⟩
        · rw [if_neg h3] at hk
          simp only [Prod.mk.injEq] at hk
          obtain ⟨hv, hrest, hbad⟩ := hk
          have hn3' : ¬ (cn : Int) = 3 := by omega
          have hb1 : ((cn : Int) == 1) = false := by simpa using hn1'
          have hb2 : ((cn : Int) == 2) = false := by simpa using hn2'
          have hb3 : ((cn : Int) == 3) = false := by simpa using hn3'
          clear h3
          have hk := True.intro
          have HVV := Lib.hid hv
          have HRR := Lib.hid hrest
          have HBB := Lib.hid hbad
          clear hv hrest hbad
          go_upto_region 9 with fail
          have hv := HVV.out
          have hrest := HRR.out
          have hbad := HBB.out
          clear x0 x1 x2 xz HVV HRR HBB hb1 hb2 hb3 hn1' hn2' hn3'
          have HS3 := Lib.hid (Nat.le_refl wo.heap.size)
          have X := hX
          rw [← hv] at X
          have R := hr2
          rw [← hrest, ← hbad] at R
          have Z := Z2
          have B := B2
          clear hv hrest hbad hX hr2 Z2 B2
          clear hk
          obtain ⟨x0, x1, x2, xz⟩ := X.open_
          obtain ⟨y0, y1, y2⟩ := Z.free
          obtain ⟨z0, z1, z2, zz⟩ := Z.open_
          obtain ⟨ao, n, cap, hh, hl2, hn, hcap, hc2, HB, hne⟩ := R
          have r0 := cell_of hh 0
          have r1 := cell_of hh 1
          simp at r0 r1
          have HH := Lib.hid hh
          have HL2 := Lib.hid hl2
          clear hh hl2
          have c2 := Lib.hid (fun W => rrightx v W)
          have hT2 := hT.out
          cases bad with
          | true =>
            simp only [Bool.true_or, if_true] at hT2
            obtain rfl := hT2
            go_wp2_with (first | (at_make; refine Stop.un ?_) | (at_builtin; refine Stop.un ?_) | (with_reducible refine Stop.conv 40 9 ?_) | (with_reducible refine Stop.conv 9 40 ?_))
            exact bodyPost_ret (v := .tuple #[V.zero.val, .slice none 0 0, .int .i64 6]) (by simp [results, Try.results45, go_sem, V.zero, V.val, z0, z1, z2, y0, y1, y2]; rfl) rfl ⟨none, 0, 0, rfl, Nat.le_refl _, by omega, rfl, Cs.nil _ _, by first | exact B | exact below_put B (Nat.le_refl _) _ _ _, fun _ h => by cases h⟩
          | false =>
            cases hr : rightB v with
            | false =>
              simp only [hr, Bool.not_false, Bool.or_true, if_true] at hT2
              obtain rfl := hT2
              rw [hr] at c2
              go_wp2_with (first | (at_make; refine Stop.un ?_) | (at_builtin; refine Stop.un ?_) | (with_reducible refine Stop.conv 40 9 ?_) | (with_reducible refine Stop.conv 9 40 ?_))
              refine (c2.out _).mono ?_
              rintro e w5 ⟨rfl, b5⟩
              have B5 := B.next b5
              replace Z := Z.mono b5
              clear y0 y1 y2 z0 z1 z2 zz B b5 r0 r1
              obtain ⟨y0, y1, y2⟩ := Z.free
              obtain ⟨z0, z1, z2, zz⟩ := Z.open_
              go_wp2_with (first | (at_make; refine Stop.un ?_) | (at_builtin; refine Stop.un ?_) | (with_reducible refine Stop.conv 40 9 ?_) | (with_reducible refine Stop.conv 9 40 ?_))
              exact bodyPost_ret (v := .tuple #[V.zero.val, .slice none 0 0, .int .i64 6]) (by simp [results, Try.results45, go_sem, V.zero, V.val, z0, z1, z2, y0, y1, y2]; rfl) rfl ⟨none, 0, 0, rfl, Nat.le_refl _, by omega, rfl, Cs.nil _ _, by first | exact B5 | exact below_put B5 (Nat.le_refl _) _ _ _, fun _ h => by cases h⟩
            | true =>
              simp only [hr, Bool.not_true, Bool.or_false, Bool.false_eq_true, if_false] at hT2
              obtain rfl := hT2
              rw [hr] at c2
              go_wp2_with (first | (at_make; refine Stop.un ?_) | (at_builtin; refine Stop.un ?_) | (with_reducible refine Stop.conv 40 9 ?_) | (with_reducible refine Stop.conv 9 40 ?_))
              refine (c2.out _).mono ?_
              rintro e w5 ⟨rfl, b5⟩
              have B5 := B.next b5
              replace Z := Z.mono b5
              replace X := X.mono b5
              replace hc2 := hc2.mono b5 (Nat.le_refl _)
              replace r0 := Ext.cell b5 r0
              have hgl := Nat.lt_of_lt_of_le (heap_lt HH.out) b5.size
              have HS5 : Hid (wo.heap.size ≤ w5.heap.size) := Lib.hid (by have h1 := HS3.out; have h2 := b5.size; (try simp at h2); omega)
              clear y0 y1 y2 z0 z1 z2 zz B b5 x0 x1 x2 xz c2 hT r1
              obtain ⟨x0, x1, x2, xz⟩ := X.open_
              have hnq : some (w.heap.size + 1) ≠ some w.heap.size := by intro e; injection e with e; omega
              have hng : some g ≠ some w.heap.size := by intro e; injection e with e; have := HGG.out; omega
              go_wp2_with (first | (at_make; refine Stop.un ?_) | (at_builtin; refine Stop.un ?_) | (with_reducible refine Stop.conv 40 9 ?_) | (with_reducible refine Stop.conv 9 40 ?_))
              refine mix_startX (w5.heap.size) (some w.heap.size) 8 rfl (by kernel_rfl) ?_
              intro xq hxq
              have hxs := hxq.size
              replace x0 := Ext.cell hxq x0
              replace x1 := Ext.cell hxq x1
              replace x2 := Ext.cell hxq x2
              replace r0 := Ext.cell hxq r0
              replace Z := Z.mono hxq
              replace B5 := B5.next hxq
              replace hc2 := hc2.mono hxq (Nat.le_refl _)
              have HXS := Lib.hid hxs
              clear hxq hxs
              refine mix_quiet (Keeps.rx (w5.heap.size) (some w.heap.size)) 0 rfl (by kernel_rfl) rfl ?_
              intro ι U hne hU
              have hcv := fun ii => And.intro (RX.cell (hU ii) xz hnq x0) (And.intro (RX.cell (hU ii) xz hnq x1) (RX.cell (hU ii) xz hnq x2))
              go_big_quiet_op
              clear hU hne hcv U ι
              show wpAnyM _ _ _ _ _ _ _ _ _
              refine mix_quiet (Keeps.rx (w5.heap.size) (some w.heap.size)) 1 rfl (by kernel_rfl) rfl ?_
              intro ι U hne hU
              go_big_quiet_op
              clear hU hne U ι
              show wpAnyM _ _ _ _ _ _ _ _ _
              refine mix_quiet (Keeps.rx (w5.heap.size) (some w.heap.size)) 2 rfl (by kernel_rfl) rfl ?_
              intro ι U hne hU
              have hcv := fun ii => RX.cell (hU ii) hgl hng r0
              go_big_quiet_op
              clear hU hne hcv U ι
              show wpAnyM _ _ _ _ _ _ _ _ _
              refine mix_quiet (Keeps.rx (w5.heap.size) (some w.heap.size)) 3 rfl (by kernel_rfl) rfl ?_
              intro ι U hne hU
              go_big_quiet_op
              clear hU hne U ι
              show wpAnyM _ _ _ _ _ _ _ _ _
              refine mix_quiet (Keeps.rx (w5.heap.size) (some w.heap.size)) 4 rfl (by kernel_rfl) rfl ?_
              intro ι U hne hU
              have hcv := fun ii => RX.cell (hU ii) hgl hng r0
              go_big_quiet_op
              clear hU hne hcv U ι
              show wpAnyM _ _ _ _ _ _ _ _ _
              clear x0 x1 x2 xz r0
              obtain ⟨y0, y1, y2⟩ := Z.free
              obtain ⟨z0, z1, z2, zz⟩ := Z.open_
              refine mix_any 5 rfl (by kernel_rfl) rfl ?_
              go_wp2_with (first | (at_make; refine Stop.un ?_) | (at_builtin; refine Stop.un ?_) | (with_reducible refine Stop.conv 40 9 ?_) | (with_reducible refine Stop.conv 9 40 ?_))
              refine MixPost.mk (RX.put _ _ _ _ _) ?_
              refine mix_quiet (Keeps.rx (w5.heap.size) (some w.heap.size)) 6 rfl (by kernel_rfl) rfl ?_
              intro ι U hne hU
              go_big_quiet_op
              clear hU hne U ι
              show wpAnyM _ _ _ _ _ _ _ _ _
              refine mix_quiet (Keeps.rx (w5.heap.size) (some w.heap.size)) 7 rfl (by kernel_rfl) rfl ?_
              intro ι U hne hU
              go_big_quiet_op
              clear hU hne U ι
              show wpAnyM _ _ _ _ _ _ _ _ _
              refine mix_end (by kernel_rfl) ?_
              have Z9 := Z.put v.k v.n v.s
              have C9 := Cs.put hc2 v.k v.n v.s (g := w.heap.size) (fun a ha => by have := (hne a ha).2.1; omega)
              have B9 := below_put B5 (Nat.le_refl _) v.k v.n v.s
              obtain ⟨q0, q1, q2, qz⟩ := Z9.open_
              simp only at q0 q1 q2
              go_wp2_with (first | (at_make; refine Stop.un ?_) | (at_builtin; refine Stop.un ?_) | (with_reducible refine Stop.conv 40 9 ?_) | (with_reducible refine Stop.conv 9 40 ?_))
              exact bodyPost_ret (v := .tuple #[v.val, .slice ao n cap, .int .i64 0]) (by simp [results, Try.results45, go_sem, V.val, q0, q1, q2]) rfl ⟨ao, n, cap, HL2.out, hn, hcap, rfl, C9, B9, fun a ha => ⟨by have := (hne a ha).2.1; omega, by have := (hne a ha).2.2; have := HS5.out; have := HXS.out; simp; omega⟩⟩
end Go.Proofs.Ytdpmaocbfmgmlaa
