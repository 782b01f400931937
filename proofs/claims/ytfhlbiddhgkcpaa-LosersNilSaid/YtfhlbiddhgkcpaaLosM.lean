/- Merge: lists that are in order, as one. -/
import Derived.Test.YtfhlbiddhgkcpaaLosL
import Derived.Test.YtfhlbiddhgkcpaaCutR
set_option linter.unusedVariables false
set_option linter.unusedSimpArgs false
namespace Go.Proofs.Ytfhlbiddhgkcpaa
open Go.RowKit
theorem Own.oth {P : Nat → Prop} {w0 w x : World} {e size n : Nat} {v : Value} {xs : List Value} (h : Own w0 w e size v n xs) (o : Oth P w x) (hv : ∀ k, v.ownBlock = some k → ¬ P k) (hP : ∀ k, P k → w0.heap.size ≤ k) : Own w0 x e size v n xs :=
  ⟨o.owns h.1 hv, h.2.trans (o.low hP h.le)⟩
theorem Oth.of_grown {w x : World} {row : Option Nat} (g : w.grownBy x row) : Oth (fun k => row = some k) w x := ⟨g.os, g.tape, g.output, g.size, fun k hk hn => g.block k hk (fun e => hn e.symm)⟩
theorem Tre.grow {t : Tr} {H : List Rw} {ks : List Ky} {S : List Nat} {q : Nat} {A : Nat → Prop} {w x : World} {P A' : Nat → Prop} (h : Tre t H ks S q A w) (o : Oth P w x) (hP : ∀ k, k < w.heap.size → P k → A k) (hA : ∀ k, A' k → (A k ∨ w.heap.size ≤ k) ∧ k < x.heap.size) : Tre t H ks S q A' x := by
  have hx := h.oth o hP
  have hml : ∀ k, t.mut k → k < w.heap.size := fun k hk => by
    rcases hk with rfl | rfl | ⟨a, e, rfl⟩
    · exact h.z.lt
    · exact h.zs.lt
    · exact (h.hh.lt _ (by rw [e]; rfl)).2
  refine ⟨hx.z, hx.zs, hx.hh, fun r hr => ⟨(hx.rows r hr).1, fun a ha => ⟨((hx.rows r hr).2 a ha).1, ((hx.rows r hr).2 a ha).2.1, fun ha2 => ?_⟩⟩, hx.kcs, hx.kl, hx.kle, hx.kmx, fun hne a ha => ⟨(hx.kad hne a ha).1, fun ha2 => ?_⟩, hx.ne, fun k hk ha2 => ?_, fun k hk => (hA k hk).2⟩
  · have h1 := (h.rows r hr).2 a ha
    rcases (hA _ ha2).1 with h2 | h2
    · exact h1.2.2 h2
    · omega
  · rcases (hA _ ha2).1 with h2 | h2
    · exact (h.kad hne a ha).2 h2
    · have hne2 : kcells ks ≠ [] := fun e => hne (by
        cases ks with
        | nil => rfl
        | cons k l => simp [kcells] at e)
      obtain ⟨b2, o2, e2, hcell⟩ := h.kcs 0 ((kcells ks)[0]'(List.length_pos_iff.2 hne2)) (List.getElem?_eq_getElem _)
      have h3 := ha.symm.trans e2
      have h4 := lt_cell hcell
      rw [Option.some.inj h3] at h2
      simp only at h4 h2
      omega
  · have h1 := hml k hk
    rcases (hA _ ha2).1 with h2 | h2
    · exact h.notA k hk h2
    · omega
theorem Gd.grow {t : Tr} {H : List Rw} {ks : List Ky} {S : List Nat} {q h v : Nat} {A : Nat → Prop} {w x : World} {P A' : Nat → Prop} (G : Gd t H ks q A w h S v) (o : Oth P w x) (hP : ∀ k, k < w.heap.size → P k → A k) (hA : ∀ k, A' k → (A k ∨ w.heap.size ≤ k) ∧ k < x.heap.size) : Gd t H ks q A' x h S v := ⟨G.T.grow o hP hA, G.len, G.hl, G.h4, G.s0, G.vl, G.won⟩
/-- What lies where while lists are merged. -/
structure MgM (wb wN wT : World) (tr : Tr) (a : Option Addr) (n c : Nat) (ks : List Ky) (h : Nat) (ab : Option Addr) (N cb : Nat) (cur : List Lw) (rs : List Rw) (H : List Rw) (q : Nat) (S : List Nat) (v : Nat) (w : World) : Prop where
  L : Own wb w 22 1 (.slice a n c) n (lwcells cur)
  O : OwnRs wb w (.slice ab N cb) N rs
  G : Gd tr H ks q (fun k => k < wN.heap.size ∨ (Value.slice ab N cb).ownBlock = some k) w h S v
  rows : ∀ r ∈ rs, RowOk w r ∧ ∀ x, r.a = some x → wT.heap.size ≤ x.block ∧ x.block < w.heap.size ∧ (Value.slice ab N cb).ownBlock ≠ some x.block
  own : ∀ k, (Value.slice ab N cb).ownBlock = some k → wT.heap.size ≤ k
  sz : wT.heap.size ≤ w.heap.size
/-- What does not change while lists are merged. -/
structure MgF (wb wN wT : World) (tr : Tr) (a : Option Addr) (n c : Nat) : Prop where
  s1 : wb.heap.size ≤ wN.heap.size
  s2 : wN.heap.size ≤ wT.heap.size
  m : ∀ k, tr.mut k → wN.heap.size ≤ k ∧ k < wT.heap.size
  r : ∀ k, (Value.slice a n c).ownBlock = some k → wb.heap.size ≤ k ∧ k < wN.heap.size
section
variable {wb wN wT : World} {tr : Tr} {a : Option Addr} {n c : Nat} {ks : List Ky} {h : Nat} {ab : Option Addr} {N cb : Nat} {cur : List Lw} {rs H : List Rw} {q : Nat} {S : List Nat} {v : Nat} {w x : World}
theorem MgM.below (M : MgM wb wN wT tr a n c ks h ab N cb cur rs H q S v w) (b : Below w.heap.size w x) : MgM wb wN wT tr a n c ks h ab N cb cur rs H q S v x :=
  ⟨Own.keep M.L b, Own.keep M.O b, M.G.below b, fun r hr => ⟨(M.rows r hr).1.mono b, fun y hy => ⟨((M.rows r hr).2 y hy).1, Nat.lt_of_lt_of_le ((M.rows r hr).2 y hy).2.1 b.size, ((M.rows r hr).2 y hy).2.2⟩⟩, M.own, Nat.le_trans M.sz b.size⟩
theorem MgM.push (F : MgF wb wN wT tr a n c) (M : MgM wb wN wT tr a n c ks h ab N cb cur rs H q S v w) {r : Rw} (ro : RowOk w r) (rb : ∀ y, r.a = some y → wT.heap.size ≤ y.block ∧ y.block < w.heap.size ∧ (Value.slice ab N cb).ownBlock ≠ some y.block)
    {ab' : Option Addr} {cb' : Nat} (O : OwnRs wb x (.slice ab' (N + 1) cb') (N + 1) (rs ++ [r])) (g : w.grownBy x (Value.slice ab N cb).ownBlock) (gk : ∀ k, (Value.slice ab' (N + 1) cb').ownBlock = some k → (Value.slice ab N cb).ownBlock = some k ∨ w.heap.size ≤ k) :
    MgM wb wN wT tr a n c ks h ab' (N + 1) cb' cur (rs ++ [r]) H q S v x := by
  have hap : Apart (.slice a n c) (.slice ab N cb) := fun k hk e => by
    have h1 := F.r k hk
    have h2 := M.own k e
    have h3 := F.s2
    omega
  have hsN : wN.heap.size ≤ w.heap.size := Nat.le_trans F.s2 M.sz
  refine ⟨Own.beside M.L g hap (Own.below O), O, M.G.grow (Oth.of_grown g) (fun k _ hk => .inr hk) (fun k hk => ?_), fun y hy => ?_, fun k hk => ?_, Nat.le_trans M.sz g.size⟩
  · rcases hk with h1 | h1
    · exact ⟨.inl (.inl h1), Nat.lt_of_lt_of_le (Nat.lt_of_lt_of_le h1 hsN) g.size⟩
    · refine ⟨?_, Own.lt O k h1⟩
      rcases gk k h1 with h2 | h2
      · exact .inl (.inr h2)
      · exact .inr h2
  · have hy2 : RowOk w y ∧ ∀ x, y.a = some x → wT.heap.size ≤ x.block ∧ x.block < w.heap.size ∧ (Value.slice ab N cb).ownBlock ≠ some x.block := by
      rcases List.mem_append.1 hy with h1 | h1
      · exact M.rows y h1
      · rw [List.mem_singleton.1 h1]; exact ⟨ro, rb⟩
    refine ⟨⟨hy2.1.cs.grown g (fun z hz => ⟨(hy2.2 z hz).2.1, (hy2.2 z hz).2.2⟩), hy2.1.len, hy2.1.le, hy2.1.max, hy2.1.kind⟩, fun z hz => ⟨(hy2.2 z hz).1, Nat.lt_of_lt_of_le (hy2.2 z hz).2.1 g.size, fun e => ?_⟩⟩
    rcases gk _ e with h2 | h2
    · exact (hy2.2 z hz).2.2 h2
    · have := (hy2.2 z hz).2.1; omega
  · rcases gk k hk with h2 | h2
    · exact M.own k h2
    · exact Nat.le_trans M.sz h2
theorem MgM.cut (F : MgF wb wN wT tr a n c) (M : MgM wb wN wT tr a n c ks h ab N cb cur rs H q S v w) {gr : Nat} (ha : a = some ⟨gr, 0, none⟩) (i : Nat) (l : Lw) :
    MgM wb wN wT tr a n c ks h ab N cb (cur.set i l) rs H q S v (w.setCell ⟨gr, i, none⟩ (.slice l.a l.n l.cap)) := by
  subst ha
  have hgr := F.r gr rfl
  have o : Oth (fun k => k = gr) w (w.setCell ⟨gr, i, none⟩ (.slice l.a l.n l.cap)) := (Oth.refl _ w).set _ _ (.inl rfl)
  have hs2 := F.s2
  refine ⟨?_, Own.oth M.O o (fun k hk e => ?_) (fun k hk => by rw [hk]; exact hgr.1), M.G.oth o (fun k _ hk => .inl (by rw [hk]; exact hgr.2)), fun r hr => ⟨o.row (M.rows r hr).1 (fun y hy e => ?_), fun y hy => ⟨((M.rows r hr).2 y hy).1, Nat.lt_of_lt_of_le ((M.rows r hr).2 y hy).2.1 o.size, ((M.rows r hr).2 y hy).2.2⟩⟩, M.own, Nat.le_trans M.sz o.size⟩
  · have h1 : Own wb (w.setCell ⟨gr, i, none⟩ (.slice l.a l.n l.cap)) 22 1 (.slice (some ⟨gr, 0, none⟩) n c) n ((lwcells cur).set i (.slice l.a l.n l.cap)) := ⟨(M.L.1.stored i _).1, M.L.2.setCell (p := ⟨gr, i, none⟩) hgr.1 _⟩
    rwa [show (lwcells cur).set i (.slice l.a l.n l.cap) = lwcells (cur.set i l) by simp [lwcells, List.map_set, Lw.sl]] at h1
  · have := M.own k hk
    omega
  · have := ((M.rows r hr).2 y hy).1
    omega
theorem MgM.put (F : MgF wb wN wT tr a n c) (M : MgM wb wN wT tr a n c ks h ab N cb cur rs H q S v w) (o : Oth tr.mut w x) {H' : List Rw} {q' : Nat} {S' : List Nat} {v' : Nat} (G' : Gd tr H' ks q' (fun k => k < wN.heap.size ∨ (Value.slice ab N cb).ownBlock = some k) x h S' v') :
    MgM wb wN wT tr a n c ks h ab N cb cur rs H' q' S' v' x := by
  have hs1 := F.s1
  refine ⟨Own.oth M.L o (fun k hk hm => ?_) (fun k hm => ?_), Own.oth M.O o (fun k hk hm => ?_) (fun k hm => ?_), G', fun r hr => ⟨o.row (M.rows r hr).1 (fun y hy hm => ?_), fun y hy => ⟨((M.rows r hr).2 y hy).1, Nat.lt_of_lt_of_le ((M.rows r hr).2 y hy).2.1 o.size, ((M.rows r hr).2 y hy).2.2⟩⟩, M.own, Nat.le_trans M.sz o.size⟩
  · have := F.m k hm
    have := F.r k hk
    omega
  · have := F.m k hm
    omega
  · have := F.m k hm
    have := M.own k hk
    omega
  · have := F.m k hm
    omega
  · have := F.m _ hm
    have := ((M.rows r hr).2 y hy).1
    omega
end
def lenOf : Value → Nat
  | .slice _ n _ => n
  | _ => 0
theorem rowOk_nil (w : World) {w' : World} {r : Rw} (h : RowOk w' r) (hn : r.n = 0) : RowOk w r := by
  have h1 : r.l = [] := List.eq_nil_of_length_eq_zero (by rw [h.len]; exact hn)
  exact ⟨by rw [h1]; exact Cs.nil _ _, h.len, h.le, h.max, h.kind⟩
set_option maxRecDepth 100000 in
set_option maxHeartbeats 8000000 in
theorem merge_any (ao : Option Addr) (n cap : Nat) (ls : List Lw) (ak : Option Addr) (p ck : Nat) (ks : List Ky) (w : World) (t : Lists w ao ls) (hn : ls.length = n) (hnc : n ≤ cap) (hcap : cap ≤ maxLen) (hn2 : n ≤ 16) (hr : ∀ l ∈ ls, ∀ r ∈ l.rs, r.n ≤ 1000000) (hasc : ∀ l ∈ ls, Asc (fun a b => cmpR a b ks) l.rows) (hT : (ls.map Lw.rows).flatten.length ≤ 100000)
    (hk : Cs w ak (kcells ks)) (hp : ks.length = p) (hlp : p ≤ ck) (hcm : ck ≤ maxLen) (hp2 : p ≤ 1000000) :
    Calls Try.prog 16 #[.slice ao n cap, .slice ak p ck] w (fun e w' => ∃ ab N cb rs, e = .returned (.tuple #[.slice ab N cb, .int .i64 0]) ∧ OwnRs w w' (.slice ab N cb) N rs ∧ (∀ r ∈ rs, RowOk w' r) ∧ rs.map (·.l) = sortL ks (ls.map Lw.rows).flatten) := by
  have HN := Lib.hid (And.intro hn (And.intro hr (And.intro hasc hT)))
  have HLC := Lib.hid (lclone_any ao n cap ls w t.cs hn hnc hcap (by omega))
  have HOK := Lib.hid t.ok
  have HNEW := Lib.hid (fun ah ch (hs : List Rw) W T h1 h2 h3 h4 kx => new_any ah n ch hs ak p ck ks W T h1 h2 h3 hn2 h4 kx hp hlp hcm hp2)
  unfold maxLen at hcap
  clear hn hr hasc hT t hp hlp hcm hp2
  go_enter Try.func16, Try.ntmps16
  go_wp2_with (first | (at_make; refine Stop.un ?_) | (at_builtin; refine Stop.un ?_))
  refine HLC.out.mono ?_
  rintro e w1 ⟨a, c, rfl, L⟩
  have hlc := owns_le L.1
  have hlm := owns_max L.1
  have HLM := Lib.hid (And.intro hlc hlm)
  clear HLC hlm
  go_wp2_with (first | (at_make; refine Stop.un ?_) | (at_builtin; refine Stop.un ?_))
  go_loopw [19, 7] (fun i v wr => ∃ (j : Nat) (ah : Option Addr) (ch : Nat) (hs : List Rw), j ≤ n ∧ i = .int .i64 (j : Int) ∧ v = .slice ah j ch ∧ Own w wr 22 1 (.slice a n c) n (lwcells ls) ∧ OwnRs w wr (.slice ah j ch) j hs ∧ Apart (.slice a n c) (.slice ah j ch) ∧ Hid (hds hs = heads ((ls.take j).map Lw.rows) ∧ ∀ r ∈ hs, RowOk w r ∧ r.n ≤ 1000000)) (fun i _ _ => n - (intOf i).toNat)
  case atStart => exact ⟨0, none, 0, [], Nat.zero_le _, rfl, rfl, L, Own.nil _ _ (Own.below L), Apart.nil _, Lib.hid ⟨rfl, fun r h => by cases h⟩⟩
  case round =>
    clear L
    obtain ⟨j, ah, ch, hs, hj, rfl, rfl, L, O, AP, HH⟩ := hrel
    by_cases hlt : j < n
    · have hjl : j < ls.length := by have := HN.out.1; omega
      have csL := Own.cs L
      obtain ⟨b, o, rfl⟩ := csL.addr (by rw [lwcells_length]; omega)
      have x0 : wr.cell? ⟨b, o + j, none⟩ = some (.slice ls[j].a ls[j].n ls[j].cap) := csL.at (by simp [lwcells, hjl, Lw.sl])
      have lk := HOK.out ls[j] (List.getElem_mem _)
      have HRN := Lib.hid (HN.out.2.1 ls[j] (List.getElem_mem _))
      have HT : Hid ((ls.take (j + 1)).map Lw.rows = (ls.take j).map Lw.rows ++ [ls[j].rows]) := Lib.hid (by rw [List.take_succ_eq_append_getElem hjl, List.map_append]; rfl)
      generalize ls[j] = l at x0 lk HRN HT
      have HF := Lib.hid (first_any l wr (lk.mono (Own.below L)))
      have HLK := Lib.hid lk
      clear hjl lk csL
      go_wp2_with (first | (at_make; refine Stop.un ?_) | (at_builtin; refine Stop.un ?_))
      refine HF.out.mono ?_
      rintro e w2 ⟨r, rfl, hd', ro', b2, hx⟩
      replace L := Own.keep L b2
      replace O := Own.keep O b2
      have HRW : Hid (RowOk w r ∧ r.n ≤ 1000000 ∧ hd r = l.rows.head?) := Lib.hid (by
        rcases hx with hx | ⟨y, hy, rfl⟩
        · exact ⟨rowOk_nil w ro' hx, by omega, hd'⟩
        · exact ⟨HLK.out.tab.ok _ hy, HRN.out _ hy, hd'⟩)
      clear HF HLK HRN b2 ro' hx hd' x0
      go_wp2_with (first | (at_make; refine Stop.un ?_) | (at_builtin; refine Stop.un ?_))
      refine Stop.mk (app_rw1 (r := r) w _ _ rfl rfl O rfl rfl (by omega) ?_)
      intro a3 c3 w3 O3 g3 k3
      have L3 := Own.beside L g3 AP (Own.below O3)
      have AP3 := Own.apart L AP k3
      have HH2 : Hid (hds (hs ++ [r]) = heads ((ls.take (j + 1)).map Lw.rows) ∧ ∀ y ∈ hs ++ [r], RowOk w y ∧ y.n ≤ 1000000) := Lib.hid (by
        refine ⟨?_, fun y hy => ?_⟩
        · have h1 := HH.out.1
          rw [HT.out]
          unfold hds heads at h1 ⊢
          rw [List.map_append, List.map_append, h1]
          simp [HRW.out.2.2]
        · rcases List.mem_append.1 hy with h1 | h1
          · exact HH.out.2 y h1
          · rw [List.mem_singleton.1 h1]; exact ⟨HRW.out.1, HRW.out.2.1⟩)
      clear L O AP g3 k3 HH HRW HT
      go_wp2_with (first | (at_make; refine Stop.un ?_) | (at_builtin; refine Stop.un ?_))
      go_roundw
      case rel => exact ⟨j + 1, a3, c3, _, by omega, by go_num, rfl, L3, O3, AP3, HH2⟩
      case measure => simp [intOf]; omega
    · obtain rfl : j = n := by omega
      have T : Tab wr ah hs := ⟨Own.cs O, fun r hr => (HH.out.2 r hr).1.mono (Own.below O)⟩
      have HNW := Lib.hid (HNEW.out ah ch hs wr T (OwnRs.length O) (owns_le O.1) (owns_max O.1) (fun r hr => (HH.out.2 r hr).2) (hk.mono (Own.below O) (Nat.le_refl _)))
      have HHD : Hid (hds hs = heads (ls.map Lw.rows)) := Lib.hid (by rw [HH.out.1, List.take_of_length_le (by have := HN.out.1; omega)])
      obtain ⟨wN, hwN⟩ : ∃ wN, wN = wr := ⟨_, rfl⟩
      subst hwN
      clear HNEW HH AP T O
      go_wp2_with (first | (at_make; refine Stop.un ?_) | (at_builtin; refine Stop.un ?_))
      refine HNW.out.mono ?_
      rintro e wT ⟨tr, H, q, h, S, v, rfl, G, hH, hq, -, bN, hm, -⟩
      have hwb := Own.le L
      have hml : ∀ k, tr.mut k → k < wT.heap.size := fun k hk => by
        rcases hk with rfl | rfl | ⟨y, e, rfl⟩
        · exact G.T.z.lt
        · exact G.T.zs.lt
        · exact (G.T.hh.lt _ (by rw [e]; rfl)).2
      have F : MgF w wN wT tr a j c := ⟨hwb, bN.size, fun k hk => ⟨hm k hk, hml k hk⟩, fun k hk => ⟨Own.ge L k hk, Own.lt L k hk⟩⟩
      have M : MgM w wN wT tr a j c ks h none 0 0 ls [] H q S v wT := ⟨Own.keep L bN, Own.nil _ _ ((Own.below L).next bN), G.more (Below.refl _ _) (fun k hk => by
        rcases hk with h1 | h1
        · exact ⟨.inl h1, Nat.lt_of_lt_of_le h1 bN.size⟩
        · simp [Value.ownBlock] at h1), (fun r hr => by cases hr), (fun k hk => by simp [Value.ownBlock] at hk), Nat.le_refl _⟩
      obtain ⟨SS, hSS⟩ : ∃ SS, sortL ks (ls.map Lw.rows).flatten = SS := ⟨_, rfl⟩
      obtain ⟨TT, hTT⟩ : ∃ TT, (ls.map Lw.rows).flatten.length = TT := ⟨_, rfl⟩
      have HP : Hid (ls.length = j ∧ (∀ l ∈ ls, LwOk w l ∧ Asc (fun a b => cmpR a b ks) l.rows ∧ ∀ r ∈ l.rs, r.n ≤ 1000000) ∧ hds H = heads (ls.map Lw.rows) ∧ ([] : List Rw).map (·.l) ++ sortL ks (ls.map Lw.rows).flatten = SS ∧ 0 + (ls.map Lw.rows).flatten.length = TT ∧ q ≤ 16 + 4 * 0) := Lib.hid ⟨HN.out.1, fun l hl => ⟨HOK.out l hl, HN.out.2.2.1 l hl, HN.out.2.1 l hl⟩, by rw [hH, HHD.out], by rw [hSS]; simp, by omega, by omega⟩
      have HTT : Hid (TT ≤ 100000) := Lib.hid (by rw [← hTT]; exact HN.out.2.2.2)
      have HSS := Lib.hid hSS
      clear hSS hTT
      have h4 := G.h4
      have HFF := Lib.hid F
      clear G hH hq bN hm hwb hml L HNW HHD HN HOK F hlc
      go_wp2_with (first | (at_make; refine Stop.un ?_) | (at_builtin; refine Stop.un ?_))
      go_loopw [12] (fun vo wr => ∃ (N : Nat) (ab : Option Addr) (cb : Nat) (cur : List Lw) (rs H : List Rw) (q : Nat) (S : List Nat) (v : Nat), N ≤ TT ∧ vo = .slice ab N cb ∧ MgM w wN wT tr a j c ks h ab N cb cur rs H q S v wr ∧ Hid (cur.length = j ∧ (∀ l ∈ cur, LwOk w l ∧ Asc (fun a b => cmpR a b ks) l.rows ∧ ∀ r ∈ l.rs, r.n ≤ 1000000) ∧ hds H = heads (cur.map Lw.rows) ∧ rs.map (·.l) ++ sortL ks (cur.map Lw.rows).flatten = SS ∧ N + (cur.map Lw.rows).flatten.length = TT ∧ q ≤ 16 + 4 * N)) (fun v _ => TT - lenOf v)
      case atStart => exact ⟨0, none, 0, ls, [], H, q, S, v, Nat.zero_le _, rfl, M, HP⟩
      case round =>
        clear M HP
        obtain ⟨N, ab, cb, cur, rs, H, q, S, v, hN, rfl, M, HP⟩ := hrel
        have HNX := Lib.hid (next_any tr H ks q _ wr h S v M.G)
        cases hnx : nxt ks (hds H) with
        | none =>
          rw [hnx] at HNX
          have hfl := merge_done ks (cur.map Lw.rows) (by rw [← HP.out.2.2.1]; exact hnx)
          have HRES : Hid (rs.map (·.l) = SS) := Lib.hid (by
            have h1 := HP.out.2.2.2.1
            rw [hfl] at h1
            rw [← h1]
            show rs.map (·.l) = rs.map (·.l) ++ []
            simp)
          clear hnx hfl
          go_wp2_with (first | (at_make; refine Stop.un ?_) | (at_builtin; refine Stop.un ?_))
          refine HNX.out.mono ?_
          rintro e w2 ⟨rfl, b2⟩
          have M2 := M.below b2
          clear HNX M b2
          unfold nextV
          go_wp2_with (first | (at_make; refine Stop.un ?_) | (at_builtin; refine Stop.un ?_))
          have hok : ∀ r ∈ rs, RowOk w2 r := fun r hr => (M2.rows r hr).1
          exact bodyPost_ret (v := .tuple #[.slice ab N cb, .int .i64 0]) (by simp [results, Try.results16, go_sem]) rfl ⟨ab, N, cb, rs, rfl, M2.O, hok, HRES.out.trans HSS.out.symm⟩
        | some i =>
          rw [hnx] at HNX
          obtain ⟨x, tl, hxi, hso⟩ := merge_first ks (cur.map Lw.rows) (fun l hl => by
            obtain ⟨y, hy, rfl⟩ := List.mem_map.1 hl
            exact (HP.out.2.1 y hy).2.1) i (by rw [← HP.out.2.2.1]; exact hnx)
          have hij : i < cur.length := by
            have := (List.getElem?_eq_some_iff.1 hxi).1
            simpa using this
          have hij2 : i < j := by rw [← HP.out.1]; exact hij
          rw [List.getElem?_map, List.getElem?_eq_getElem hij] at hxi
          have hrw : cur[i].rows = x :: tl := Option.some.inj hxi
          have HCUR := Lib.hid (HP.out.2.1 cur[i] (List.getElem_mem _))
          have HCI : Hid (cur[i]? = some cur[i]) := Lib.hid (List.getElem?_eq_getElem hij)
          have csL := Own.cs M.L
          obtain ⟨_, gr, hga, hgr1, _⟩ := owns_at M.L.1 (show 0 < j by omega)
          subst hga
          have x0 : wr.cell? ⟨gr, i, none⟩ = some (.slice cur[i].a cur[i].n cur[i].cap) := by
            have := csL.at (b := gr) (o := 0) (j := i) (u := .slice cur[i].a cur[i].n cur[i].cap) (by simp [lwcells, hij, Lw.sl])
            rwa [Nat.zero_add] at this
          generalize cur[i] = l at x0 hrw HCUR HCI
          have hln : 0 < l.n := by
            have h1 := HCUR.out.1.len
            have h2 := congrArg List.length hrw
            simp [Lw.rows] at h2
            omega
          have hlc : l.n ≤ l.cap := HCUR.out.1.le
          have hlm : l.cap ≤ 9223372036854775807 := HCUR.out.1.max
          have HNXT := Lib.hid hnx
          have HSO := Lib.hid (And.intro hrw hso)
          have HNT : Hid (N + 1 ≤ TT) := Lib.hid (by
            have h1 := HP.out.2.2.2.2.1
            have h2 : ((x :: tl).length) ≤ (cur.map Lw.rows).flatten.length := by
              rw [← hrw]
              have h3 : l.rows ∈ cur.map Lw.rows := List.mem_map.2 ⟨l, List.mem_of_getElem? HCI.out, rfl⟩
              exact (List.sublist_flatten_of_mem h3).length_le
            simp only [List.length_cons] at h2
            omega)
          have hN1 := HNT.out
          have hT1 := HTT.out
          clear hnx hso hrw csL hxi hgr1
          go_wp2_with (first | (at_make; refine Stop.un ?_) | (at_builtin; refine Stop.un ?_))
          refine HNX.out.mono ?_
          rintro e w2 ⟨rfl, b2⟩
          replace M := M.below b2
          replace x0 := Ext.cell b2 x0
          have xl := lt_cell x0
          have HF := Lib.hid (fun W (b : Below w.heap.size w W) => first_any l W (HCUR.out.1.mono b))
          have H1 := Lib.hid (HF.out w2 (Own.below M.L))
          clear HNX b2
          unfold nextV
          go_wp2_with (first | (at_make; refine Stop.un ?_) | (at_builtin; refine Stop.un ?_))
          refine H1.out.mono ?_
          rintro e w3 ⟨r, rfl, hd3, ro3, b3, hx3⟩
          replace M := M.below b3
          replace x0 := Ext.cell b3 x0
          have xl := lt_cell x0
          have hrn3 : r.n ≤ 1000000 := by
            rcases hx3 with h5 | ⟨y, hy, rfl⟩
            · omega
            · exact HCUR.out.2.2 _ hy
          have H2 := Lib.hid (lown_any r w3 ro3 hrn3)
          have HD3 := Lib.hid hd3
          clear H1 hd3 ro3 b3 hx3 hrn3
          go_wp2_with (first | (at_make; refine Stop.un ?_) | (at_builtin; refine Stop.un ?_))
          refine H2.out.mono ?_
          rintro e w4 ⟨r', rfl, hd4, ro4, b4, rb4, hn4, -⟩
          have hOl := Own.lt M.O
          have hsz4 := M.sz
          replace M := M.below b4
          replace x0 := Ext.cell b4 x0
          have HRB : Hid (∀ y, r'.a = some y → wT.heap.size ≤ y.block ∧ y.block < w4.heap.size ∧ (Value.slice ab N cb).ownBlock ≠ some y.block) := Lib.hid (fun y hy => by
            have h1 := rb4 y hy
            exact ⟨by omega, h1.2, fun e => by have := hOl _ e; omega⟩)
          have HD4 : Hid (hd r' = l.fst) := Lib.hid (by rw [hd4, HD3.out])
          clear H2 hd4 b4 rb4 hn4 hOl hsz4 HD3
          go_wp2_with (first | (at_make; refine Stop.un ?_) | (at_builtin; refine Stop.un ?_))
          refine Stop.mk (app_rw1 (r := r') w _ _ rfl rfl M.O rfl rfl (by omega) ?_)
          intro a5 c5 w5 O5 g5 k5
          have M5 := M.push HFF.out ro4 HRB.out O5 g5 k5
          have f5 := M5.L.1.frozenAt i
          have x5 : w5.cell? ⟨gr, i, none⟩ = some (.slice l.a l.n l.cap) := by
            have := (Own.cs M5.L).at (b := gr) (o := 0) (j := i) (u := .slice l.a l.n l.cap) (by simp [lwcells, HCI.out, Lw.sl])
            rwa [Nat.zero_add] at this
          have xl5 := lt_cell x5
          have hlc6 := owns_le M5.L.1
          have hlm6 : c ≤ 9223372036854775807 := owns_max M5.L.1
          have cs5 := HCUR.out.1.tab.cs.mono (Own.below M5.L) (Nat.le_refl _)
          clear M x0 xl O5 g5 k5 ro4 HRB HF
          go_wp2_with (first | (at_make; refine Stop.un ?_) | (at_builtin; refine Stop.un ?_) | (with_reducible refine Stop.slice ?_))
          refine Stop.mk (wpList_cutR l.a l.n l.cap 1 rfl rfl rfl (by omega) hlc cs5 HCUR.out.1.len ?_)
          intro a7 h7
          obtain ⟨l', hl'⟩ : ∃ l' : Lw, l' = ⟨a7, l.n - 1, l.cap - 1, l.rs.drop 1⟩ := ⟨_, rfl⟩
          have HLT : Hid (LwOk w l' ∧ l'.rs = l.rs.drop 1) := Lib.hid (by
            rw [hl']
            exact ⟨⟨⟨h7 w HCUR.out.1.tab.cs, fun r hr => HCUR.out.1.tab.ok r (List.mem_of_mem_drop hr)⟩, by simp [HCUR.out.1.len], by simp only; omega, by simp only; unfold maxLen; omega⟩, rfl⟩)
          rw [show a7 = l'.a by rw [hl'], show l.n - 1 = l'.n by rw [hl'], show l.cap - 1 = l'.cap by rw [hl']]
          have M6 := M5.cut HFF.out rfl i l'
          have x6 : (w5.setCell ⟨gr, i, none⟩ (.slice l'.a l'.n l'.cap)).cell? ⟨gr, i, none⟩ = some (.slice l'.a l'.n l'.cap) := by
            have := (Own.cs M6.L).at (b := gr) (o := 0) (j := i) (u := .slice l'.a l'.n l'.cap) (by simp [lwcells, hij, Lw.sl])
            rwa [Nat.zero_add] at this
          have xl6 := lt_cell x6
          have H7 := Lib.hid (first_any l' _ (HLT.out.1.mono (Own.below M6.L)))
          clear hl' h7 cs5 M5
          go_wp2_with (first | (at_make; refine Stop.un ?_) | (at_builtin; refine Stop.un ?_))
          generalize w5.setCell ⟨gr, i, none⟩ (.slice l'.a l'.n l'.cap) = w6 at M6 x6 xl6 H7 ⊢
          refine H7.out.mono ?_
          rintro e w7 ⟨r7, rfl, hd7, ro7, b7, hx7⟩
          have M7 := M6.below b7
          have hrn7 : r7.n ≤ 1000000 := by
            rcases hx7 with h5 | ⟨y, hy, rfl⟩
            · omega
            · rw [HLT.out.2] at hy
              exact HCUR.out.2.2 _ (List.mem_of_mem_drop hy)
          have H8 := Lib.hid (put_some tr H ks q _ w7 h S v M7.G r7 i HNXT.out ro7 hrn7 (by have := HP.out.2.2.2.2.2; omega))
          have HD7 := Lib.hid hd7
          clear M6 x6 xl6 H7 hd7 ro7 b7 hx7 hrn7 f5 x5 xl5
          go_wp2_with (first | (at_make; refine Stop.un ?_) | (at_builtin; refine Stop.un ?_))
          refine H8.out.mono ?_
          rintro e w8 ⟨rfl, H', q', S', v', G', hH', hq', o8⟩
          have M8 := M7.put HFF.out o8 G'
          have HP8 : Hid ((cur.set i l').length = j ∧ (∀ l ∈ cur.set i l', LwOk w l ∧ Asc (fun a b => cmpR a b ks) l.rows ∧ ∀ r ∈ l.rs, r.n ≤ 1000000) ∧ hds H' = heads ((cur.set i l').map Lw.rows) ∧ (rs ++ [r']).map (·.l) ++ sortL ks ((cur.set i l').map Lw.rows).flatten = SS ∧ N + 1 + ((cur.set i l').map Lw.rows).flatten.length = TT ∧ q' ≤ 16 + 4 * (N + 1)) := Lib.hid (by
            obtain ⟨p1, p2, p3, p4, p5, p6⟩ := HP.out
            obtain ⟨s1, s2⟩ := HSO.out
            have htl : l'.rows = tl := by
              unfold Lw.rows at s1 ⊢
              rw [HLT.out.2, List.map_drop, s1]
              rfl
            have hset : (cur.set i l').map Lw.rows = (cur.map Lw.rows).set i tl := by rw [List.map_set, htl]
            have hrx : r'.l = x := by
              have h1 := HD4.out
              unfold Lw.fst at h1
              rw [s1] at h1
              unfold hd at h1
              cases e : r'.a with
              | none => rw [e] at h1; simp at h1
              | some _ => rw [e] at h1; simpa using h1
            have hlen := congrArg List.length s2
            unfold sortL at hlen
            rw [sortB_length, List.length_cons, sortB_length] at hlen
            refine ⟨by rw [List.length_set]; exact p1, fun y hy => ?_, ?_, ?_, ?_, by omega⟩
            · rcases List.mem_or_eq_of_mem_set hy with h1 | h1
              · exact p2 y h1
              · rw [h1]
                refine ⟨HLT.out.1, ?_, fun r hr => ?_⟩
                · rw [htl]
                  have := HCUR.out.2.1
                  rw [s1] at this
                  exact (List.pairwise_cons.1 this).2
                · rw [HLT.out.2] at hr
                  exact HCUR.out.2.2 r (List.mem_of_mem_drop hr)
            · rw [hH', p3, HD7.out]
              unfold heads Lw.fst
              rw [List.map_set, List.map_set]
            · rw [hset, List.map_append, ← p4, s2]
              simp [hrx]
            · rw [hset]; omega)
          clear M7 H8 G' hH' hq' o8 HD7 HP HSO HD4 HLT HCUR HCI HNXT
          go_wp2_with (first | (at_make; refine Stop.un ?_) | (at_builtin; refine Stop.un ?_))
          go_roundw
          case rel => exact ⟨N + 1, a5, c5, _, _, H', q', S', v', hN1, rfl, M8, HP8⟩
          case measure => simp [lenOf]; omega
end Go.Proofs.Ytfhlbiddhgkcpaa
