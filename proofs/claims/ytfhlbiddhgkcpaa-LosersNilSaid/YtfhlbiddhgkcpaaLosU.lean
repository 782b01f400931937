/- What comes next of the list whose row came. -/
import Derived.Test.YtfhlbiddhgkcpaaLosN
set_option linter.unusedVariables false
set_option linter.unusedSimpArgs false
namespace Go.Proofs.Ytfhlbiddhgkcpaa
open Go.RowKit
theorem Tre.put {t : Tr} {H : List Rw} {ks : List Ky} {S : List Nat} {q : Nat} {A : Nat → Prop} {w : World} (T : Tre t H ks S q A w) {gh : Nat} (hg : t.ah = some ⟨gh, 0, none⟩) (i : Nat) (r : Rw) (ro : RowOk w r) (rb : ∀ a, r.a = some a → a.block < w.heap.size ∧ ¬ t.mut a.block ∧ ¬ A a.block) :
    Tre t (H.set i r) ks S q A (w.setCell ⟨gh, i, none⟩ (.slice r.a r.n r.cap)) := by
  have hm : t.mut gh := .inr (.inr ⟨_, hg, rfl⟩)
  have o : Oth (fun k => k = gh) w (w.setCell ⟨gh, i, none⟩ (.slice r.a r.n r.cap)) := (Oth.refl _ w).set _ _ (.inl rfl)
  have hne := T.ne.2 _ hg
  have hs := T.hh
  rw [hg] at hs
  have hst := (hs.stored i (.slice r.a r.n r.cap)).1
  refine ⟨?_, o.at T.zs (fun e => hne.2 e.symm), ?_, fun q hq => ?_, o.cs T.kcs (fun hne2 a ha e => (T.kad (kcells_ne hne2) a ha).1 (e ▸ hm)), T.kl, T.kle, T.kmx, T.kad, T.ne, T.notA, fun k hk => Nat.lt_of_lt_of_le (T.inA k hk) o.size⟩
  · have := o.at T.z (fun e => hne.1 e.symm)
    rwa [List.length_set]
  · rw [hg, List.length_set]
    rwa [show (rwcells H).set i (.slice r.a r.n r.cap) = rwcells (H.set i r) by simp [rwcells, List.map_set, Rw.sl]] at hst
  · rcases List.mem_or_eq_of_mem_set hq with h1 | h1
    · exact ⟨o.row (T.rows q h1).1 (fun a ha e => ((T.rows q h1).2 a ha).2.1 (e ▸ hm)), fun a ha => ⟨Nat.lt_of_lt_of_le ((T.rows q h1).2 a ha).1 o.size, ((T.rows q h1).2 a ha).2⟩⟩
    · rw [h1]
      exact ⟨o.row ro (fun a ha e => (rb a ha).2.1 (e ▸ hm)), fun a ha => ⟨Nat.lt_of_lt_of_le (rb a ha).1 o.size, (rb a ha).2⟩⟩
theorem hds_set (H : List Rw) (i : Nat) (r : Rw) : hds (H.set i r) = (hds H).set i (hd r) := by simp [hds, List.map_set]
theorem gt_set_ne {L : List (Option (List V))} {i u : Nat} {x : Option (List V)} (h : u ≠ i) : gt (L.set i x) u = gt L u := by
  unfold gt
  rw [List.getD_eq_getElem?_getD, List.getD_eq_getElem?_getD, List.getElem?_set_ne (Ne.symm h)]
theorem won_bound {ks : List Ky} {H : List (Option (List V))} {S : List Nat} {sz e i v : Nat} (h : Won ks H S sz e i v) : v + sz < (i + 1) * 2 ^ e := by
  have h1 := won_range _ _ _ _ _ _ _ h
  have hp : 0 < 2 ^ e := Nat.pow_pos (by omega)
  exact Nat.lt_mul_of_div_lt (show (v + sz) / 2 ^ e < i + 1 by omega) hp
theorem clb_who {ks : List Ky} {H : List (Option (List V))} {S : List Nat} {sz h L e v : Nat} (hc : Clb ks H S sz h L e v) (he : e ≤ h) : v < L + 2 ^ h := by
  have h1 := won_bound hc.1
  have h2 := Nat.div_mul_le_self L (2 ^ e)
  have h3 : 2 ^ e ≤ 2 ^ h := Nat.pow_le_pow_right (by omega) he
  rw [Nat.add_mul, Nat.one_mul] at h1
  omega
theorem clb_slot {ks : List Ky} {H : List (Option (List V))} {S : List Nat} {sz h L e v b : Nat} (hc : Clb ks H S sz h L e v) (he : e < h) (hb : S[L / 2 ^ (e + 1)]? = some b) : b < L + 2 ^ h := by
  obtain ⟨b', s, h1, h2, h3, h4⟩ := hc.2 (e + 1) (by omega) (by omega)
  rw [hb] at h1
  obtain rfl := Option.some.inj h1
  have h5 := won_bound h2
  simp only [Nat.add_sub_cancel] at h5
  have h6 := Nat.div_mul_le_self L (2 ^ (e + 1))
  have h7 : 2 ^ (e + 1) ≤ 2 ^ h := Nat.pow_le_pow_right (by omega) (by omega)
  have h8 : (s + 1) * 2 ^ e ≤ (2 * (L / 2 ^ (e + 1)) + 2) * 2 ^ e := Nat.mul_le_mul_right _ (by omega)
  have h9 : (2 * (L / 2 ^ (e + 1)) + 2) * 2 ^ e = L / 2 ^ (e + 1) * 2 ^ (e + 1) + 2 ^ (e + 1) := by
    rw [show 2 * (L / 2 ^ (e + 1)) + 2 = (L / 2 ^ (e + 1) + 1) * 2 by omega, Nat.mul_assoc, Nat.mul_comm 2 (2 ^ e), ← Nat.pow_succ, Nat.add_mul, Nat.one_mul]
  omega
set_option maxHeartbeats 2000000 in
theorem put_none (t : Tr) (H : List Rw) (ks : List Ky) (q : Nat) (A : Nat → Prop) (w : World) (h : Nat) (S : List Nat) (v : Nat) (G : Gd t H ks q A w h S v) (r : Rw) (hn : nxt ks (hds H) = none) :
    Calls Try.prog 13 #[.pointer (some ⟨t.g, 0, none⟩), .slice r.a r.n r.cap] w (fun e w' => e = .returned (.int .i64 2) ∧ Below w.heap.size w w') := by
  have HN := Lib.hid (next_any t H ks q A w h S v G)
  rw [hn] at HN
  clear G hn
  go_enter Try.func13, Try.ntmps13
  go_wp2_with (first | (at_make; refine Stop.un ?_) | (at_builtin; refine Stop.un ?_))
  refine HN.out.mono ?_
  rintro e w1 ⟨rfl, b1⟩
  clear HN
  unfold nextV
  go_wp2_with (first | (at_make; refine Stop.un ?_) | (at_builtin; refine Stop.un ?_))
  go_ret
  exact ⟨rfl, b1⟩
theorem put_nil (r : Rw) (w : World) :
    Calls Try.prog 13 #[.pointer none, .slice r.a r.n r.cap] w (fun e w' => e = .returned (.int .i64 2) ∧ Below w.heap.size w w') := by
  have HN := Lib.hid (next_nil w)
  go_enter Try.func13, Try.ntmps13
  go_wp2_with (first | (at_make; refine Stop.un ?_) | (at_builtin; refine Stop.un ?_))
  refine HN.out.mono ?_
  rintro e w1 ⟨rfl, b1⟩
  clear HN
  unfold nextV
  go_wp2_with (first | (at_make; refine Stop.un ?_) | (at_builtin; refine Stop.un ?_))
  go_ret
  exact ⟨rfl, b1⟩
set_option maxRecDepth 100000 in
set_option maxHeartbeats 8000000 in
theorem put_some (t : Tr) (H : List Rw) (ks : List Ky) (q : Nat) (A : Nat → Prop) (w : World) (h : Nat) (S : List Nat) (v : Nat) (G : Gd t H ks q A w h S v) (r : Rw) (who : Nat) (hn : nxt ks (hds H) = some who) (ro : RowOk w r) (rn : r.n ≤ 1000000) (hq : q ≤ 900000) :
    Calls Try.prog 13 #[.pointer (some ⟨t.g, 0, none⟩), .slice r.a r.n r.cap] w (fun e w' => e = .returned (.int .i64 0) ∧ ∃ H' q' S' v', Gd t H' ks q' A w' h S' v' ∧ hds H' = (hds H).set who (hd r) ∧ q' ≤ q + h ∧ Oth t.mut w w') := by
  have hnx := G.nxt
  rw [hn] at hnx
  have hsv : (gt (hds H) v).isSome = true := by
    by_cases h1 : (gt (hds H) v).isSome = true
    · exact h1
    · rw [if_neg h1] at hnx; cases hnx
  rw [if_pos hsv] at hnx
  obtain rfl := Option.some.inj hnx
  have hvH : who < H.length := by have := gt_lt hsv; rwa [hds_length] at this
  have HN := Lib.hid (next_any t H ks q A w h S who G)
  rw [hn] at HN
  have HO := Lib.hid (fun W ro => lown_any r W ro rn)
  have h16 := pow4 G.h4
  have hvl := G.vl
  have hp : 0 < 2 ^ h := Nat.pow_pos (by omega)
  have HG := Lib.hid (And.intro G.hl (And.intro G.h4 (And.intro G.won G.len)))
  obtain ⟨gh, hgh⟩ : ∃ gh, t.ah = some ⟨gh, 0, none⟩ := by
    obtain ⟨_, g, e, _⟩ := owns_at G.T.hh (by omega)
    exact ⟨g, e⟩
  have hle := owns_le G.T.hh
  have hmx : t.ch ≤ 9223372036854775807 := owns_max G.T.hh
  have T := G.T
  have HSZ : Hid (2 ^ h = 2 ^ h) := Lib.hid rfl
  obtain ⟨sz, hsz⟩ : ∃ sz, 2 ^ h = sz := ⟨_, rfl⟩
  have HL : Hid (∀ e, (e < h → 1 ≤ (who + sz) / 2 ^ (e + 1)) ∧ (who + sz) / 2 ^ (e + 1) < sz ∧ (who + sz) / 2 ^ (e + 1) / 2 = (who + sz) / 2 ^ (e + 1 + 1)) := Lib.hid (fun e => by
    refine ⟨fun he => ?_, ?_, (div_up _ _).symm⟩
    · rw [Nat.le_div_iff_mul_le (Nat.pow_pos (by omega)), Nat.one_mul, ← hsz]
      exact Nat.le_trans (Nat.pow_le_pow_right (by omega) (by omega)) (Nat.le_add_left _ _)
    · have h1 := div_le_div (who + sz) 1 (e + 1) (by omega)
      rw [Nat.pow_one] at h1
      omega)
  have HL0 : Hid ((who + sz) / 2 ^ (h + 1) = 0) := Lib.hid (by
    apply Nat.div_eq_of_lt
    rw [Nat.pow_succ]
    omega)
  have HL1 : Hid ((who + sz) / 2 ^ h = 1) := Lib.hid (by
    rw [← hsz, Nat.add_div_right _ hp, Nat.div_eq_of_lt (by omega)])
  rw [hsz] at hvl hp h16
  have HS := Lib.hid hsz
  clear G hn hnx hsv HSZ hsz
  go_enter Try.func13, Try.ntmps13
  go_wp2_with (first | (at_make; refine Stop.un ?_) | (at_builtin; refine Stop.un ?_))
  refine HN.out.mono ?_
  rintro e w1 ⟨rfl, b1⟩
  replace T := T.below b1
  replace ro := ro.mono b1
  have o1 := Oth.of_below t.mut b1
  have z := T.z
  rw [hgh] at z
  have x0 := z.cell 0 rfl
  have xl := z.lt
  clear HN b1 z
  unfold nextV
  go_upto_region 4 with fail
  refine mix_startE 9 rfl (by kernel_rfl) ?_
  intro xq hxq
  replace T := T.below hxq
  replace o1 := o1.below hxq
  replace x0 := Ext.cell hxq x0
  replace ro := ro.mono hxq
  clear hxq
  refine mix_quiet Keeps.ext 0 rfl (by kernel_rfl) rfl ?_
  intro ι U hne hU
  go_big_quiet_op
  clear hU hne U ι
  show wpAnyM _ _ _ _ _ _ _ _ _
  refine mix_quiet Keeps.ext 1 rfl (by kernel_rfl) rfl ?_
  intro ι U hne hU
  go_big_quiet_op
  clear hU hne U ι
  show wpAnyM _ _ _ _ _ _ _ _ _
  refine mix_quiet Keeps.ext 2 rfl (by kernel_rfl) rfl ?_
  intro ι U hne hU
  go_big_quiet_op
  clear hU hne U ι
  show wpAnyM _ _ _ _ _ _ _ _ _
  refine mix_quiet Keeps.ext 3 rfl (by kernel_rfl) rfl ?_
  intro ι U hne hU
  have hcw0 := fun ii => (hU ii).cell x0
  go_big_quiet_op
  clear hU hne hcw0 U ι
  show wpAnyM _ _ _ _ _ _ _ _ _
  refine mix_quiet Keeps.ext 4 rfl (by kernel_rfl) rfl ?_
  intro ι U hne hU
  go_big_quiet_op
  clear hU hne U ι
  show wpAnyM _ _ _ _ _ _ _ _ _
  refine mix_quiet Keeps.ext 5 rfl (by kernel_rfl) rfl ?_
  intro ι U hne hU
  go_big_quiet_op
  clear hU hne U ι
  show wpAnyM _ _ _ _ _ _ _ _ _
  refine mix_any 6 rfl (by kernel_rfl) rfl ?_
  go_wp2_with (first | (at_make; refine Stop.un ?_) | (at_builtin; refine Stop.un ?_))
  refine (HO.out _ ro).mono ?_
  rintro e wo ⟨r', rfl, hd', ro', bo, rb', -, -⟩
  go_wp2_with (first | (at_make; refine Stop.un ?_) | (at_builtin; refine Stop.un ?_))
  refine MixPost.mk bo ?_
  have HRB : Hid (∀ a, r'.a = some a → a.block < wo.heap.size ∧ ¬ t.mut a.block ∧ ¬ A a.block) := Lib.hid (fun a ha => ⟨(rb' a ha).2, fun hm => by
    have h1 := (rb' a ha).1
    have h2 : ∀ k, t.mut k → k < xq.heap.size := fun k hk => by
      rcases hk with rfl | rfl | ⟨a, e, rfl⟩
      · exact T.z.lt
      · exact T.zs.lt
      · exact (T.hh.lt _ (by rw [e]; rfl)).2
    have := h2 _ hm
    omega, fun hA => by
    have h1 := (rb' a ha).1
    have := T.inA _ hA
    omega⟩)
  clear rb' ro HO
  replace T := T.below bo
  replace o1 := o1.below bo
  replace x0 := Ext.cell bo x0
  have HHD := Lib.hid hd'
  clear hd' bo
  refine mix_quiet Keeps.ext 7 rfl (by kernel_rfl) rfl ?_
  intro ι U hne hU
  go_big_quiet_op
  clear hU hne U ι
  show wpAnyM _ _ _ _ _ _ _ _ _
  refine mix_last 8 rfl (by kernel_rfl) (by kernel_rfl) rfl ?_
  have hfz := T.hh
  rw [hgh] at hfz
  have f8 := hfz.frozenAt who
  have c8 := hfz.cellAt who (by omega)
  rw [List.getElem?_eq_getElem (by rw [rwcells_length]; exact hvH)] at c8
  have gl8 := lt_cell c8
  clear hfz
  go_wp2_with (first | (at_make; refine Stop.un ?_) | (at_builtin; refine Stop.un ?_))
  refine MixLast.mk ?_
  refine mix_end (by kernel_rfl) ?_
  have T3 := T.put hgh who r' ro' HRB.out
  have o3 := o1.set ⟨gh, who, none⟩ (.slice r'.a r'.n r'.cap) (.inl (.inr (.inr ⟨_, hgh, rfl⟩)))
  have hlH : (H.set who r').length = H.length := List.length_set
  have HH : Hid (hds (H.set who r') = (hds H).set who (hd r)) := Lib.hid (by rw [hds_set, HHD.out])
  have HC : Hid (S.length = sz ∧ q ≤ q + 0 ∧ Clb ks (hds (H.set who r')) S sz h (who + sz) 0 who) := Lib.hid (by
    have hw := HG.out.2.2.1
    rw [HS.out] at hw
    exact ⟨by rw [← HS.out]; exact HG.out.2.2.2, by omega, clb_start hw (fun u hu => by rw [HH.out]; exact gt_set_ne hu)⟩)
  have HSL : Hid (S.length = sz) := Lib.hid HC.out.1
  generalize H.set who r' = H' at T3 hlH HH HC
  have hlH2 : H'.length ≤ 16 := by have := HG.out.1; rw [HS.out] at this; omega
  have z := T3.z
  rw [HSL.out] at z
  have x2 := z.cell 2 rfl
  have xl := z.lt
  have h4 := HG.out.2.1
  have HBT := Lib.hid (fun S q a b w (T : Tre t H' ks S q A w) ha hb hq => beats_any t H' ks S q A a b w T ha hb (by omega) hq)
  clear T o1 x0 f8 c8 gl8 z hle hmx hlH HRB ro'
  go_wp2_with (first | (at_make; refine Stop.un ?_) | (at_builtin; refine Stop.un ?_))
  go_loopw [7, 5] (fun i v wr => ∃ (e v' : Nat) (S' : List Nat) (q' : Nat), e ≤ h ∧ i = .int .i64 (((who + sz) / 2 ^ (e + 1) : Nat) : Int) ∧ v = .int .i64 (v' : Int) ∧ Tre t H' ks S' q' A wr ∧ Oth t.mut w wr ∧ Hid (S'.length = sz ∧ q' ≤ q + e ∧ Clb ks (hds H') S' sz h (who + sz) e v')) (fun i _ _ => (intOf i).toNat)
  case atStart => exact ⟨0, who, S, q, Nat.zero_le _, by simp, rfl, T3, o3, HC⟩
  case round =>
    clear T3 o3 HC x2 xl
    obtain ⟨e, v', S', q', he, rfl, rfl, T, o, HC⟩ := hrel
    have hl1 := HL.out e
    by_cases hlt : e < h
    · have hn1 := hl1.1 hlt
      have hn2 := hl1.2.1
      have hn3 := hl1.2.2
      obtain ⟨b, hb, hcT, hcF⟩ := clb_step (by rw [← HS.out]; omega) hlt HC.out.2.2
      have hb9 := clb_slot HC.out.2.2 hlt hb
      have hv9 := clb_who HC.out.2.2 he
      rw [HS.out] at hb9 hv9
      have HB := Lib.hid (And.intro hcT hcF)
      have H3 := Lib.hid (HBT.out S' q' b v' wr T (by omega) (by omega) (by have := HC.out.2.1; omega))
      have HC1 := Lib.hid (And.intro HC.out.1 HC.out.2.1)
      obtain ⟨n, hn⟩ : ∃ n, (who + sz) / 2 ^ (e + 1) = n := ⟨_, rfl⟩
      rw [hn] at hn1 hn2 hn3 hb HB ⊢
      have HN3 := Lib.hid hn3
      have HBS := Lib.hid hb
      have z := T.z
      rw [HC1.out.1] at z
      have x2 := z.cell 2 rfl
      have xl := z.lt
      have c2 := T.zs.cell n (v := .int .i64 (b : Int)) (by simp [hb])
      have cl := T.zs.lt
      clear z T hl1 hcT hcF HC hn hn3 hb
      have hd1 : decide ((0 : Int) < (n : Int)) = true := decide_eq_true (by omega)
      go_wp2_with (first | (at_make; refine Stop.un ?_) | (at_builtin; refine Stop.un ?_))
      refine H3.out.mono ?_
      rintro e3 w3 ⟨q3, rfl, T3, hq3, O3⟩
      have o3 := o.trans O3
      have z := T3.z
      rw [HC1.out.1] at z
      have x2 := z.cell 2 rfl
      have xl := z.lt
      have hq4 : q3 ≤ q + (e + 1) := by
        have h1 := HC1.out.2
        unfold both at hq3
        split at hq3 <;> omega
      have HQ4 := Lib.hid hq4
      have hls : n < S'.length := by rw [HC1.out.1]; exact hn2
      obtain ⟨b2, hb2⟩ : ∃ b2, S'[n] = b2 := ⟨_, rfl⟩
      clear o O3 hq3 hq4 z H3
      cases hB : btB ks (hds H') b v' with
      | false =>
        have HC5 : Hid (S'.length = sz ∧ q3 ≤ q + (e + 1) ∧ Clb ks (hds H') S' sz h (who + sz) (e + 1) v') := Lib.hid ⟨HC1.out.1, HQ4.out, HB.out.2 hB⟩
        clear HB hB x2 xl hls hb2 c2 cl
        go_wp2_with (first | (at_make; refine Stop.un ?_) | (at_builtin; refine Stop.un ?_))
        go_roundw
        case rel => exact ⟨e + 1, v', S', q3, by omega, by rw [← HN3.out]; go_num, rfl, T3, o3, HC5⟩
        case measure => simp [intOf]; omega
      | true =>
        have HC5 : Hid ((S'.set n v').length = sz ∧ q3 ≤ q + (e + 1) ∧ Clb ks (hds H') (S'.set n v') sz h (who + sz) (e + 1) b) := Lib.hid ⟨by rw [List.length_set]; exact HC1.out.1, HQ4.out, HB.out.1 hB⟩
        clear HB hB x2 xl hls hb2 c2 cl
        go_upto_region 9 with fail
        have z := T3.z
        rw [HC1.out.1] at z
        have x2 := z.cell 2 rfl
        have xl := z.lt
        have c3 := T3.zs.cell n (v := .int .i64 (b : Int)) (by simp [HBS.out])
        clear z
        refine mix_startE 16 rfl (by kernel_rfl) ?_
        intro xq hxq
        replace T3 := T3.below hxq
        replace o3 := o3.below hxq
        replace x2 := Ext.cell hxq x2
        replace c3 := Ext.cell hxq c3
        clear hxq
        refine mix_quiet Keeps.ext 0 rfl (by kernel_rfl) rfl ?_
        intro ι U hne hU
        go_big_quiet_op
        clear hU hne U ι
        show wpAnyM _ _ _ _ _ _ _ _ _
        refine mix_quiet Keeps.ext 1 rfl (by kernel_rfl) rfl ?_
        intro ι U hne hU
        go_big_quiet_op
        clear hU hne U ι
        show wpAnyM _ _ _ _ _ _ _ _ _
        refine mix_quiet Keeps.ext 2 rfl (by kernel_rfl) rfl ?_
        intro ι U hne hU
        go_big_quiet_op
        clear hU hne U ι
        show wpAnyM _ _ _ _ _ _ _ _ _
        refine mix_quiet Keeps.ext 3 rfl (by kernel_rfl) rfl ?_
        intro ι U hne hU
        have hcw0 := fun ii => (hU ii).cell x2
        have hcw1 := fun ii => (hU ii).cell c3
        go_big_quiet_op
        clear hU hne hcw0 hcw1 U ι
        show wpAnyM _ _ _ _ _ _ _ _ _
        refine mix_quiet Keeps.ext 4 rfl (by kernel_rfl) rfl ?_
        intro ι U hne hU
        go_big_quiet_op
        clear hU hne U ι
        show wpAnyM _ _ _ _ _ _ _ _ _
        refine mix_quiet Keeps.ext 5 rfl (by kernel_rfl) rfl ?_
        intro ι U hne hU
        go_big_quiet_op
        clear hU hne U ι
        show wpAnyM _ _ _ _ _ _ _ _ _
        refine mix_quiet Keeps.ext 6 rfl (by kernel_rfl) rfl ?_
        intro ι U hne hU
        go_big_quiet_op
        clear hU hne U ι
        show wpAnyM _ _ _ _ _ _ _ _ _
        refine mix_quiet Keeps.ext 7 rfl (by kernel_rfl) rfl ?_
        intro ι U hne hU
        go_big_quiet_op
        clear hU hne U ι
        show wpAnyM _ _ _ _ _ _ _ _ _
        refine mix_quiet Keeps.ext 8 rfl (by kernel_rfl) rfl ?_
        intro ι U hne hU
        have hcw0 := fun ii => (hU ii).cell x2
        have hcw1 := fun ii => (hU ii).cell c3
        go_big_quiet_op
        clear hU hne hcw0 hcw1 U ι
        show wpAnyM _ _ _ _ _ _ _ _ _
        refine mix_quiet Keeps.ext 9 rfl (by kernel_rfl) rfl ?_
        intro ι U hne hU
        go_big_quiet_op
        clear hU hne U ι
        show wpAnyM _ _ _ _ _ _ _ _ _
        refine mix_quiet Keeps.ext 10 rfl (by kernel_rfl) rfl ?_
        intro ι U hne hU
        go_big_quiet_op
        clear hU hne U ι
        show wpAnyM _ _ _ _ _ _ _ _ _
        refine mix_quiet Keeps.ext 11 rfl (by kernel_rfl) rfl ?_
        intro ι U hne hU
        have hcw0 := fun ii => (hU ii).cell x2
        have hcw1 := fun ii => (hU ii).cell c3
        go_big_quiet_op
        clear hU hne hcw0 hcw1 U ι
        show wpAnyM _ _ _ _ _ _ _ _ _
        refine mix_quiet Keeps.ext 12 rfl (by kernel_rfl) rfl ?_
        intro ι U hne hU
        go_big_quiet_op
        clear hU hne U ι
        show wpAnyM _ _ _ _ _ _ _ _ _
        refine mix_quiet Keeps.ext 13 rfl (by kernel_rfl) rfl ?_
        intro ι U hne hU
        go_big_quiet_op
        clear hU hne U ι
        show wpAnyM _ _ _ _ _ _ _ _ _
        refine mix_quiet Keeps.ext 14 rfl (by kernel_rfl) rfl ?_
        intro ι U hne hU
        go_big_quiet_op
        clear hU hne U ι
        show wpAnyM _ _ _ _ _ _ _ _ _
        refine mix_last 15 rfl (by kernel_rfl) (by kernel_rfl) rfl ?_
        have f3 := T3.zs.free n
        have c3l := lt_cell c3
        go_wp2_with (first | (at_make; refine Stop.un ?_) | (at_builtin; refine Stop.un ?_))
        refine MixLast.mk ?_
        refine mix_end (by kernel_rfl) ?_
        have T5 := T3.slot n v'
        have o5 := o3.set ⟨t.gs, n, none⟩ (.int .i64 (v' : Int)) (.inl (.inr (.inl rfl)))
        clear T3 o3 f3 x2 c3 c3l
        go_wp2_with (first | (at_make; refine Stop.un ?_) | (at_builtin; refine Stop.un ?_))
        go_roundw
        case rel => exact ⟨e + 1, b, S'.set n v', q3, by omega, by rw [← HN3.out]; go_num, rfl, T5, o5, HC5⟩
        case measure => simp [intOf]; omega
    · obtain rfl : e = h := by omega
      rw [HL0.out]
      have z := T.z
      rw [HC.out.1] at z
      have x2 := z.cell 2 rfl
      have xl := z.lt
      have f3 := T.zs.free 0
      have hls : 0 < S'.length := by rw [HC.out.1]; exact hp
      obtain ⟨s0, c3⟩ : ∃ s0, wr.cell? ⟨t.gs, 0, none⟩ = some s0 := ⟨_, T.zs.cell 0 (v := .int .i64 (S'[0] : Int)) (by simp [hls])⟩
      have c3l := T.zs.lt
      have T5 := T.slot 0 v'
      have o5 := o.set ⟨t.gs, 0, none⟩ (.int .i64 (v' : Int)) (.inl (.inr (.inl rfl)))
      have hw := clb_end HL1.out HC.out.2.2
      have HF : Hid ((S'.set 0 v').length = 2 ^ e ∧ H'.length ≤ 2 ^ e ∧ (S'.set 0 v')[0]? = some v' ∧ v' < 2 ^ e ∧ Won ks (hds H') (S'.set 0 v') (2 ^ e) e 1 v' ∧ q' ≤ q + e) := Lib.hid (by
        have hb := won_bound hw
        rw [HS.out]
        refine ⟨by rw [List.length_set]; exact HC.out.1, ?_, List.getElem?_set_self hls, ?_, ?_, HC.out.2.1⟩
        · have h1 := HG.out.1
          have h2 := congrArg List.length HH.out
          rw [List.length_set, hds_length, hds_length] at h2
          rw [HS.out] at h1
          omega
        · rw [HS.out] at hb
          omega
        · refine won_mono _ _ _ hw (fun x j hx hj => ?_) (fun _ _ => rfl)
          rw [List.getElem?_set_ne]
          intro e0
          rw [← e0, Nat.zero_div] at hj
          omega)
      clear T o z HC hls hl1 hw
      go_wp2_with (first | (at_make; refine Stop.un ?_) | (at_builtin; refine Stop.un ?_))
      go_ret
      exact ⟨by first | rfl | simp, H', q', S'.set 0 v', v', ⟨T5, HF.out.1, HF.out.2.1, h4, HF.out.2.2.1, HF.out.2.2.2.1, HF.out.2.2.2.2.1⟩, HH.out, HF.out.2.2.2.2.2, o5⟩
end Go.Proofs.Ytfhlbiddhgkcpaa
