/- What Take of the program returns. -/
import Derived.Test.YtdpmaocbfmgmlaaCTakeP
import Derived.Test.YtdpmaocbfmgmlaaCut
import Derived.Deep.CutBlock
set_option linter.unusedVariables false
set_option linter.unusedSimpArgs false
namespace Go.Proofs.Ytdpmaocbfmgmlaa
open Go.RowKit
/-- A value, bytes of the call's own, and a kind. -/
def RetT (w : World) (o : Option (V × List UInt8)) : Ending → World → Prop := fun e w' =>
  ∃ (ao : Option Addr) (n cap : Nat), (tkL o).length = n ∧ e = .returned (.tuple #[(tkV o).val, .slice ao n cap, .int .i64 (tkE o)]) ∧ OwnB w w' (.slice ao n cap) n (tkL o)
theorem rightx (a : V) (w : World) : Calls Try.prog 30 #[.agg #[.int .u8 a.k, .int .i64 a.n, .string a.s]] w (fun e w' => e = .returned (.bool (rightB a)) ∧ Below w.heap.size w w') := right_any a w
set_option maxRecDepth 100000 in
set_option maxHeartbeats 4000000 in
theorem take_any (ao : Option Addr) (m cap : Nat) (l : List UInt8) (w : World) (hc : Cs w ao (bcells l)) (hm : l.length = m) (hl : m ≤ 140737488350000) (hlc : m ≤ cap) :
    Calls Try.prog 40 #[.slice ao m cap] w (RetT w (takeV l)) := by
  match l, hm, hc with
  | [], hm, hc =>
    obtain rfl : m = 0 := by simpa using hm.symm
    have e : takeV [] = none := rfl
    rw [e]
    clear e
    go_enter Try.func40, Try.ntmps40
    go_wp2_with (first | (at_make; refine Stop.un ?_) | (at_builtin; refine Stop.un ?_) | (with_reducible refine Stop.conv 40 9 ?_) | (with_reducible refine Stop.conv 9 40 ?_))
    exact bodyPost_ret (v := .tuple #[V.zero.val, .slice none 0 0, .int .i64 6]) (by simp [results, Try.results40, go_sem, V.zero, V.val]; rfl) rfl ⟨none, 0, 0, rfl, rfl, Own.nil _ _ (by simpa using (Below.refl _ _).alloc (Nat.le_refl _) _)⟩
  | c :: r, hm, hc =>
    have hmr : r.length + 1 = m := by simpa using hm
    have Hm := Lib.hid hm
    have HR := Lib.hid hmr
    obtain ⟨b, o, rfl⟩ := hc.addr (by simp [bcells])
    have hcell := hc.at (j := 0) (u := .int .u8 (c.toNat : Int)) (by simp [bcells])
    rw [Nat.add_zero] at hcell
    have hT : Hid (takeV (c :: r) = if (takeK c.toNat r).2.2 || !rightB (takeK c.toNat r).1 then none else some ((takeK c.toNat r).1, (takeK c.toNat r).2.1)) := Lib.hid rfl
    have hD := Lib.hid (takeK_drop c.toNat r)
    have hK : Hid (takeK c.toNat r = if c.toNat = 1 ∨ c.toNat = 2 then (⟨(c.toNat : Nat), zag (rdN r), ⟨#[]⟩⟩, rdRest r, rdBad r) else if c.toNat = 3 then (⟨3, 0, strOf (rdT r)⟩, rdTRest r, rdTBad r) else (⟨(c.toNat : Nat), 0, ⟨#[]⟩⟩, r, false)) := Lib.hid rfl
    generalize takeK c.toNat r = t at hT hD hK
    generalize takeV (c :: r) = res at hT ⊢
    have hC := c.toNat_lt
    have hcd := hc.drop 1
    rw [show (bcells (c :: r)).drop 1 = bcells r from by simp [bcells]] at hcd
    have hm0 : 1 ≤ m := by omega
    have hm1 : ((m : Int) == 0) = false := by simp; omega
    have hca : (if cap = 1 then (some ⟨b, o, none⟩ : Option Addr) else some ⟨b, o + 1, none⟩) = (if cap = 1 then some ⟨b, o, none⟩ else some ⟨b, o + 1, none⟩) := rfl
    clear hca
    generalize hcn : c.toNat = cn at *
    have HCN := Lib.hid hcn
    obtain ⟨v, rest, bad⟩ := t
    simp only at hT hD
    clear hm hmr hcn
    go_enter Try.func40, Try.ntmps40
    go_upto_region 3 with fail
    go_cut [5] (fun x wx => ∃ g, x = .pointer (some ⟨g, 0, none⟩) ∧ w.heap.size < g ∧ Rdr 77 (w.heap.size + 1) wx.heap.size wx g r false ∧ VAt wx w.heap.size V.zero ∧ Below w.heap.size w wx)
    case first =>
      have hz0 := VAt.new w ⟨0, 0, ⟨#[]⟩⟩
      have hb0 : Below w.heap.size w (w.alloc (.cells #[.int .u8 0, .int .i64 0, .string ⟨#[]⟩] 24)) := (Below.refl _ _).alloc (Nat.le_refl _) _
      have hs0 : (w.alloc (.cells #[.int .u8 0, .int .i64 0, .string ⟨#[]⟩] 24)).heap.size = w.heap.size + 1 := by simp
      have HS0 := Lib.hid hs0
      have hc0 := hc.mono hb0 (Nat.le_refl _)
      clear hs0
      go_wp2_with (first | (at_make; refine Stop.un ?_) | (at_builtin; refine Stop.un ?_) | (with_reducible refine Stop.conv 40 9 ?_) | (with_reducible refine Stop.conv 9 40 ?_) | (with_reducible refine Stop.slice ?_))
      refine Stop.mk (wpList_cutB (some ⟨b, o, none⟩) m cap 1 rfl rfl rfl hm0 hlc hc0 Hm.out ?_)
      intro aq kq
      rw [show (c :: r).drop 1 = r from rfl] at kq
      go_wp2_with (first | (at_make; refine Stop.un ?_) | (at_builtin; refine Stop.un ?_) | (with_reducible refine Stop.conv 40 9 ?_) | (with_reducible refine Stop.conv 9 40 ?_))
      refine (newo_any _ _ _ r _ kq (by have := HR.out; omega) (by omega)).mono ?_
      rintro e w2 ⟨g, rfl, hg, hr, hb⟩
      have Z2 := hz0.mono hb
      have B2 := hb0.next hb
      rw [HS0.out] at hg hr
      clear hb hz0 hb0 hc0 kq
      go_wp2_with (first | (at_make; refine Stop.un ?_) | (at_builtin; refine Stop.un ?_) | (with_reducible refine Stop.conv 40 9 ?_) | (with_reducible refine Stop.conv 9 40 ?_))
      go_meet
      exact ⟨g, rfl, by omega, hr, Z2, B2⟩
    case rest =>
      obtain ⟨g, rfl, hg, hr, Z, B⟩ := hcut
      have hcellc := (hc.mono B (Nat.le_refl _)).at (j := 0) (u := .int .u8 (cn : Int)) (by rw [← HCN.out]; simp [bcells])
      rw [Nat.add_zero] at hcellc
      have hX := VAt.new wc ⟨cn, 0, ⟨#[]⟩⟩
      have hbx : Below wc.heap.size wc (wc.alloc (.cells #[.int .u8 cn, .int .i64 0, .string ⟨#[]⟩] 24)) := (Below.refl _ _).alloc (Nat.le_refl _) _
      have hr2 := hr.below hbx
      have Z2 := Z.mono hbx
      have B2 := B.next hbx
      have HG := Lib.hid (hr.lt)
      have HZ : Hid (w.heap.size < wc.heap.size) := Lib.hid (by have := HG.out; omega)
      clear hcell hcd hr Z B
      obtain ⟨wo, rfl⟩ : ∃ wo : World, wo = wc := ⟨_, rfl⟩
      go_upto_block 0 with fail
      go_cut [] (fun wx => VAt wx wo.heap.size v ∧ Rdr 77 (w.heap.size + 1) wo.heap.size wx g rest bad ∧ VAt wx w.heap.size V.zero ∧ Below w.heap.size w wx)
      case first =>
        have hzlt := Z2.lt
        have hk := hK.out
        by_cases h12 : cn = 1 ∨ cn = 2
        · rw [if_pos h12] at hk
          simp only [Prod.mk.injEq] at hk
          obtain ⟨rfl, rfl, rfl⟩ := hk
          clear hK hT hD
          rcases h12 with rfl | rfl
          all_goals
            go_wp2_with (first | (at_make; refine Stop.un ?_) | (at_builtin; refine Stop.un ?_) | (with_reducible refine Stop.conv 40 9 ?_) | (with_reducible refine Stop.conv 9 40 ?_))
            refine (rinto_any _ _ _ g r false _ hr2).mono ?_
            rintro e w3 ⟨rfl, hr3, hg3⟩
            have X3 := hX.grown hg3 (fun e => by injection e with e; have := HG.out; omega)
            have Z3 := Z2.grown hg3 (fun e => by injection e with e; omega)
            have B3 := B2.one hg3 (by omega) (Nat.le_refl _)
            obtain ⟨x0, x1, x2, xz⟩ := X3.open_
            obtain ⟨y0, y1, y2⟩ := X3.free
            simp only [Bool.false_or] at hr3
            clear hr2 Z2 B2 hX hg3
            go_wp2_with (first | (at_make; refine Stop.un ?_) | (at_builtin; refine Stop.un ?_) | (with_reducible refine Stop.conv 40 9 ?_) | (with_reducible refine Stop.conv 9 40 ?_))
            go_meet
            exact ⟨X3.set1 _, hr3.other (grown_set _ _ _ _) (.inr (Nat.le_refl _)), Z3.off (by have := HZ.out; simp; omega) _, B3.setCell (by have := HZ.out; simp; omega) _⟩
        · rw [if_neg h12] at hk
          have hn1 : ¬ cn = 1 := by omega
          have hn2 : ¬ cn = 2 := by omega
          have hn1' : ¬ (cn : Int) = 1 := by omega
          have hn2' : ¬ (cn : Int) = 2 := by omega
          clear h12
          by_cases h3 : cn = 3
          · rw [if_pos h3] at hk
            simp only [Prod.mk.injEq] at hk
            obtain ⟨rfl, rfl, rfl⟩ := hk
            clear hK hT hD
            subst h3
            clear hn1 hn2 hn1' hn2'
            go_wp2_with (first | (at_make; refine Stop.un ?_) | (at_builtin; refine Stop.un ?_) | (with_reducible refine Stop.conv 40 9 ?_) | (with_reducible refine Stop.conv 9 40 ?_))
            refine (rtexto_any _ _ _ g r false _ hr2).mono ?_
            rintro e w3 ⟨rfl, hr3, hg3⟩
            have X3 := hX.grown hg3 (fun e => by injection e with e; have := HG.out; omega)
            have Z3 := Z2.grown hg3 (fun e => by injection e with e; omega)
            have B3 := B2.one hg3 (by omega) (Nat.le_refl _)
            obtain ⟨x0, x1, x2, xz⟩ := X3.open_
            obtain ⟨y0, y1, y2⟩ := X3.free
            simp only [Bool.false_or] at hr3
            clear hr2 Z2 B2 hX hg3
            go_wp2_with (first | (at_make; refine Stop.un ?_) | (at_builtin; refine Stop.un ?_) | (with_reducible refine Stop.conv 40 9 ?_) | (with_reducible refine Stop.conv 9 40 ?_))
            go_meet
            exact ⟨X3.set2 _, hr3.other (grown_set _ _ _ _) (.inr (Nat.le_refl _)), Z3.off (by have := HZ.out; simp; omega) _, B3.setCell (by have := HZ.out; simp; omega) _⟩
          · rw [if_neg h3] at hk
            simp only [Prod.mk.injEq] at hk
            obtain ⟨rfl, rfl, rfl⟩ := hk
            clear hK hT hD
            have hn3' : ¬ (cn : Int) = 3 := by omega
            clear h3 hn1 hn2
            go_wp2_with (first | (at_make; refine Stop.un ?_) | (at_builtin; refine Stop.un ?_) | (with_reducible refine Stop.conv 40 9 ?_) | (with_reducible refine Stop.conv 9 40 ?_))
            go_meet
            exact ⟨hX, hr2, Z2, B2⟩
      case rest =>
        obtain ⟨X, R, Z, B3⟩ := hcut
        have c1 := Lib.hid (rbado_any _ _ _ g rest bad _ R)
        clear hX hr2 Z2 B2 hK
        obtain ⟨x0, x1, x2, xz⟩ := X.open_
        obtain ⟨y0, y1, y2⟩ := Z.free
        obtain ⟨z0, z1, z2, zz⟩ := Z.open_
        have c2 := Lib.hid (fun W => rightx v W)
        have hT2 := hT.out
        cases bad with
        | true =>
          simp only [Bool.true_or, if_true] at hT2
          obtain rfl := hT2
          go_wp2_with (first | (at_make; refine Stop.un ?_) | (at_builtin; refine Stop.un ?_) | (with_reducible refine Stop.conv 40 9 ?_) | (with_reducible refine Stop.conv 9 40 ?_))
          refine (c1.out).mono ?_
          rintro e w4 ⟨rfl, rfl⟩
          go_wp2_with (first | (at_make; refine Stop.un ?_) | (at_builtin; refine Stop.un ?_) | (with_reducible refine Stop.conv 40 9 ?_) | (with_reducible refine Stop.conv 9 40 ?_))
          exact bodyPost_ret (v := .tuple #[V.zero.val, .slice none 0 0, .int .i64 6]) (by simp [results, Try.results40, go_sem, V.zero, V.val, z0, z1, z2, y0, y1, y2]; rfl) rfl ⟨none, 0, 0, rfl, rfl, Own.nil _ _ (by first | exact B3 | exact below_put B3 (Nat.le_refl _) _ _ _)⟩
        | false =>
          cases hr : rightB v with
          | false =>
            simp only [hr, Bool.not_false, Bool.or_true, if_true] at hT2
            obtain rfl := hT2
            rw [hr] at c2
            go_wp2_with (first | (at_make; refine Stop.un ?_) | (at_builtin; refine Stop.un ?_) | (with_reducible refine Stop.conv 40 9 ?_) | (with_reducible refine Stop.conv 9 40 ?_))
            refine (c1.out).mono ?_
            rintro e w4 ⟨rfl, rfl⟩
            go_wp2_with (first | (at_make; refine Stop.un ?_) | (at_builtin; refine Stop.un ?_) | (with_reducible refine Stop.conv 40 9 ?_) | (with_reducible refine Stop.conv 9 40 ?_))
            refine (c2.out _).mono ?_
            rintro e w5 ⟨rfl, b5⟩
            have B5 := B3.next b5
            replace Z := Z.mono b5
            clear y0 y1 y2 z0 z1 z2 zz B3 b5
            obtain ⟨y0, y1, y2⟩ := Z.free
            obtain ⟨z0, z1, z2, zz⟩ := Z.open_
            go_wp2_with (first | (at_make; refine Stop.un ?_) | (at_builtin; refine Stop.un ?_) | (with_reducible refine Stop.conv 40 9 ?_) | (with_reducible refine Stop.conv 9 40 ?_))
            exact bodyPost_ret (v := .tuple #[V.zero.val, .slice none 0 0, .int .i64 6]) (by simp [results, Try.results40, go_sem, V.zero, V.val, z0, z1, z2, y0, y1, y2]; rfl) rfl ⟨none, 0, 0, rfl, rfl, Own.nil _ _ (by first | exact B5 | exact below_put B5 (Nat.le_refl _) _ _ _)⟩
          | true =>
            simp only [hr, Bool.not_true, Bool.or_false, Bool.false_eq_true, if_false] at hT2
            obtain rfl := hT2
            rw [hr] at c2
            go_wp2_with (first | (at_make; refine Stop.un ?_) | (at_builtin; refine Stop.un ?_) | (with_reducible refine Stop.conv 40 9 ?_) | (with_reducible refine Stop.conv 9 40 ?_))
            refine (c1.out).mono ?_
            rintro e w4 ⟨rfl, rfl⟩
            go_wp2_with (first | (at_make; refine Stop.un ?_) | (at_builtin; refine Stop.un ?_) | (with_reducible refine Stop.conv 40 9 ?_) | (with_reducible refine Stop.conv 9 40 ?_))
            refine (c2.out _).mono ?_
            rintro e w5 ⟨rfl, b5⟩
            have B5 := B3.next b5
            replace Z := Z.mono b5
            replace X := X.mono b5
            replace R := R.below b5
            clear y0 y1 y2 z0 z1 z2 zz B3 b5 x0 x1 x2 xz c1 c2 hT
            go_upto_region 13 with fail
            obtain ⟨x0, x1, x2, xz⟩ := X.open_
            have hnq : some wo.heap.size ≠ some w.heap.size := by intro e; injection e with e; have := HZ.out; omega
            have hd := hD.out
            have hmr := HR.out
            obtain ⟨i, hi⟩ : ∃ i, i = m - rest.length := ⟨_, rfl⟩
            have hdr : (c :: r).drop i = rest := by
              rw [hi, show m - rest.length = (r.length - rest.length) + 1 by omega, List.drop_succ_cons]; exact hd.2
            have HDR := Lib.hid hdr
            have hi1 : i ≤ m := by omega
            have hil : m - i = rest.length := by omega
            have HIL := Lib.hid hil
            have hint : (m : Int) - (rest.length : Int) = (i : Int) := by omega
            have HINT := Lib.hid hint
            have c3 := Lib.hid (fun W (h : Rdr 77 (w.heap.size + 1) wo.heap.size W g rest false) => rlefto_any _ _ _ g rest false W h)
            have hrl : rest.length ≤ m := by omega
            have HRL : Hid (rest.length = rest.length) := Lib.hid rfl
            generalize hrle : rest.length = rl at hrl HIL HINT c3
            have HRE := Lib.hid hrle
            clear hdr hil hint hi hd hD hrle HRL hmr
            have BW := Lib.hid B5.size
            refine mix_startX (w5.heap.size) (some w.heap.size) 12 rfl (by kernel_rfl) ?_
            intro xq hxq
            have hxs := hxq.size
            replace x0 := Ext.cell hxq x0
            replace x1 := Ext.cell hxq x1
            replace x2 := Ext.cell hxq x2
            replace Z := Z.mono hxq
            replace B5 := B5.next hxq
            replace R := R.below hxq
            have k0 := hc.mono B5 (Nat.le_refl _)
            have HXS := Lib.hid hxs
            have HZL := Lib.hid Z.lt
            clear hxq hxs
            refine mix_quiet (Keeps.rx (w5.heap.size) (some w.heap.size)) 0 rfl (by kernel_rfl) rfl ?_
            intro ι U hne hU
            have hcv := fun ii => And.intro (RX.cell (hU ii) xz hnq x0) (And.intro (RX.cell (hU ii) xz hnq x1) (RX.cell (hU ii) xz hnq x2))
            go_big_quiet_op
            clear hU hne hcv U ι
            show wpAnyM _ _ _ _ _ _ _ _ _
            refine mix_quiet (Keeps.rx (w5.heap.size) (some w.heap.size)) 1 rfl (by kernel_rfl) rfl ?_
            intro ι U hne hU
            go_big_quiet_op
            clear hU hne U ι
            show wpAnyM _ _ _ _ _ _ _ _ _
            refine mix_quiet (Keeps.rx (w5.heap.size) (some w.heap.size)) 2 rfl (by kernel_rfl) rfl ?_
            intro ι U hne hU
            go_big_quiet_op
            clear hU hne U ι
            show wpAnyM _ _ _ _ _ _ _ _ _
            refine mix_quiet (Keeps.rx (w5.heap.size) (some w.heap.size)) 3 rfl (by kernel_rfl) rfl ?_
            intro ι U hne hU
            go_big_quiet_op
            clear hU hne U ι
            show wpAnyM _ _ _ _ _ _ _ _ _
            refine mix_quiet (Keeps.rx (w5.heap.size) (some w.heap.size)) 4 rfl (by kernel_rfl) rfl ?_
            intro ι U hne hU
            go_big_quiet_op
            clear hU hne U ι
            show wpAnyM _ _ _ _ _ _ _ _ _
            clear x0 x1 x2 xz
            refine mix_any 5 rfl (by kernel_rfl) rfl ?_
            go_wp2_with (first | (at_make; refine Stop.un ?_) | (at_builtin; refine Stop.un ?_) | (with_reducible refine Stop.conv 40 9 ?_) | (with_reducible refine Stop.conv 9 40 ?_))
            refine (c3.out _ R).mono ?_
            rintro e wq ⟨rfl, rfl⟩
            go_wp2_with (first | (at_make; refine Stop.un ?_) | (at_builtin; refine Stop.un ?_) | (with_reducible refine Stop.conv 40 9 ?_) | (with_reducible refine Stop.conv 9 40 ?_))
            refine MixPost.mk (RX.refl _) ?_
            refine mix_quiet (Keeps.rx (w5.heap.size) (some w.heap.size)) 6 rfl (by kernel_rfl) rfl ?_
            intro ι U hne hU
            go_big_quiet_op
            clear hU hne U ι
            show wpAnyM _ _ _ _ _ _ _ _ _
            rw [HINT.out]
            refine mix_quiet (Keeps.rx (w5.heap.size) (some w.heap.size)) 7 rfl (by kernel_rfl) rfl ?_
            intro ι U hne hU
            refine quiet_as _ (exec_cutB (some ⟨b, o, none⟩) m cap i rfl rfl hi1 hlc) (hne.elim fun ii => ⟨_, ii, rfl⟩) ?_
            go_big_quiet_op
            clear hU hne U ι
            show wpAnyM _ _ _ _ _ _ _ _ _
            have kx := k0.bcut i cap (by have := Hm.out; omega)
            rw [HDR.out] at kx
            generalize (if cap = i then (some ⟨b, o, none⟩ : Option Addr) else Option.map (fun (x : Addr) => x.add i) (some (⟨b, o, none⟩ : Addr))) = aq at kx ⊢
            refine mix_any 8 rfl (by kernel_rfl) rfl ?_
            go_wp2_with (first | (at_make; refine Stop.un ?_) | (at_builtin; refine Stop.un ?_) | (with_reducible refine Stop.conv 40 9 ?_) | (with_reducible refine Stop.conv 9 40 ?_))
            refine Stop.mk (app_nil w _ _ rfl rfl B5 rfl rfl (by rw [HIL.out]; exact HRE.out) kx (by omega) ?_)
            intro ao6 cap6 w6 O6 b6 GE6
            rw [HIL.out] at O6 GE6 ⊢
            have GE := Lib.hid GE6
            clear GE6
            replace Z := Z.mono b6
            clear kx k0 R
            obtain ⟨y0, y1, y2⟩ := Z.free
            obtain ⟨z0, z1, z2, zz⟩ := Z.open_
            go_wp2_with (first | (at_make; refine Stop.un ?_) | (at_builtin; refine Stop.un ?_) | (with_reducible refine Stop.conv 40 9 ?_) | (with_reducible refine Stop.conv 9 40 ?_))
            refine MixPost.mk (RX.ext b6 (by have := HXS.out; omega)) ?_
            refine mix_any 9 rfl (by kernel_rfl) rfl ?_
            go_wp2_with (first | (at_make; refine Stop.un ?_) | (at_builtin; refine Stop.un ?_) | (with_reducible refine Stop.conv 40 9 ?_) | (with_reducible refine Stop.conv 9 40 ?_))
            refine MixPost.mk (RX.put _ _ _ _ _) ?_
            refine mix_quiet (Keeps.rx (w5.heap.size) (some w.heap.size)) 10 rfl (by kernel_rfl) rfl ?_
            intro ι U hne hU
            go_big_quiet_op
            clear hU hne U ι
            show wpAnyM _ _ _ _ _ _ _ _ _
            refine mix_quiet (Keeps.rx (w5.heap.size) (some w.heap.size)) 11 rfl (by kernel_rfl) rfl ?_
            intro ι U hne hU
            go_big_quiet_op
            clear hU hne U ι
            show wpAnyM _ _ _ _ _ _ _ _ _
            refine mix_end (by kernel_rfl) ?_
            have Z9 := Z.put v.k v.n v.s
            have O9 : OwnB w _ _ _ _ := Own.cs_put (g := w.heap.size) O6 v.k v.n v.s (Nat.le_refl _) (fun e => by have := GE.out _ e; have := HZL.out; omega)
            obtain ⟨q0, q1, q2, qz⟩ := Z9.open_
            simp only at q0 q1 q2
            go_wp2_with (first | (at_make; refine Stop.un ?_) | (at_builtin; refine Stop.un ?_) | (with_reducible refine Stop.conv 40 9 ?_) | (with_reducible refine Stop.conv 9 40 ?_))
            exact bodyPost_ret (v := .tuple #[v.val, .slice ao6 rl cap6, .int .i64 0]) (by simp [results, Try.results40, go_sem, V.val, q0, q1, q2]) rfl ⟨_, _, _, HRE.out, rfl, O9⟩
end Go.Proofs.Ytdpmaocbfmgmlaa
