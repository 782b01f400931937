/- The reference's groups: plain. -/
import Derived.Test.YtbiniecjenencaaGPerm
import Derived.Test.YtbiniecjenencaaOSame
import Derived.Test.YtbiniecjenencaaGTwice
set_option linter.unusedVariables false
set_option linter.unusedSimpArgs false
set_option maxRecDepth 10000
namespace Go.Proofs.Ytbiniecjenencaa
open Go.RowKit
/-! The reference's groups: plain. -/
/-- The values of groups, in the order in which they come. -/
def headStep (bs : List Int) (hs : List (List V)) (r : List V) : List (List V) := if hdOf bs r ∈ hs then hs else hs ++ [hdOf bs r]
def headsB (bs : List Int) (rows : List (List V)) : List (List V) := rows.foldl (headStep bs) (if bs = [] then [[]] else [])
/-- The rows of a group. -/
def sameB (bs : List Int) (h : List V) (rows : List (List V)) : List (List V) := rows.filter (fun r => decide (hdOf bs r = h))
/-- What is told of it. -/
def outB (bs : List Int) (ags : List Ag) (rows : List (List V)) (h : List V) : List V := h ++ ags.map (fun x => (aggB (sameB bs h rows) x).1)
def badB (bs : List Int) (ags : List Ag) (rows : List (List V)) (h : List V) : Bool := ags.any (fun x => !decide ((aggB (sameB bs h rows) x).2 = 0))
def idKeys (n : Nat) : List Ky := (List.range n).map (fun i : Nat => (⟨(i : Int), false⟩ : Ky))
def refB (kinds : List UInt8) (rows : List (List V)) (bs : List Int) (ags : List Ag) : Int × List (List V) :=
  if kindsE kinds bs ags = 0 then (if rows.all (fitL kinds) = true then (if (headsB bs rows).any (badB bs ags rows) = true then (220, []) else (0, sortL (idKeys bs.length) ((headsB bs rows).map (outB bs ags rows)))) else (7, [])) else (kindsE kinds bs ags, [])
theorem ref_fit {kinds : List UInt8} {rows : List (List V)} {bs : List Int} {ags : List Ag} (hE : kindsE kinds bs ags = 0) {r : List V} (hr : r ∈ rows) (h : fitL kinds r = false) : refB kinds rows bs ags = (7, []) := by
  unfold refB
  rw [if_pos hE, if_neg (fun h2 => by rw [List.all_eq_true.1 h2 r hr] at h; cases h)]
theorem ref_ok {kinds : List UInt8} {rows : List (List V)} {bs : List Int} {ags : List Ag} (hE : kindsE kinds bs ags = 0) (hf : ∀ r ∈ rows, fitL kinds r = true) :
    refB kinds rows bs ags = if (headsB bs rows).any (badB bs ags rows) = true then (220, []) else (0, sortL (idKeys bs.length) ((headsB bs rows).map (outB bs ags rows))) := by
  unfold refB
  rw [if_pos hE, if_pos (List.all_eq_true.2 hf)]
theorem heads_snoc (bs : List Int) (rows : List (List V)) (r : List V) : headsB bs (rows ++ [r]) = headStep bs (headsB bs rows) r := by
  unfold headsB
  rw [List.foldl_append]
  rfl
theorem head_in {bs : List Int} {hs : List (List V)} {r : List V} (h : hdOf bs r ∈ hs) : headStep bs hs r = hs := if_pos h
theorem head_new {bs : List Int} {hs : List (List V)} {r : List V} (h : hdOf bs r ∉ hs) : headStep bs hs r = hs ++ [hdOf bs r] := if_neg h
theorem hd_kind {l : List V} (h : ∀ v ∈ l, 0 ≤ v.k) (bs : List Int) : ∀ v ∈ hdOf bs l, 0 ≤ v.k := fun v hv => by
  obtain ⟨c, _, rfl⟩ := List.mem_map.1 hv
  unfold atV
  split
  · rw [List.getD_eq_getElem?_getD]
    cases e : l[c.toNat]? with
    | none => exact Int.le_refl 0
    | some v => exact h v (List.mem_of_getElem? e)
  · exact Int.le_refl 0
theorem same_map (bs : List Int) (h : List V) (rows : List Rw) : ((rows.filter (fun r => decide (hdOf bs r.l = h))).map (·.l)) = sameB bs h (rows.map (·.l)) := by
  unfold sameB
  rw [List.filter_map]
  rfl
theorem same_kind {bs : List Int} {h : List V} {R : List (List V)} (hk : ∀ r ∈ R, ∀ v ∈ r, 0 ≤ v.k) : ∀ r ∈ sameB bs h R, ∀ v ∈ r, 0 ≤ v.k := fun r hr => hk r (List.mem_filter.1 hr).1
theorem out_kind {bs : List Int} {ags : List Ag} {R : List (List V)} {h : List V} (hk : ∀ r ∈ R, ∀ v ∈ r, 0 ≤ v.k) (hh : ∀ v ∈ h, 0 ≤ v.k) : ∀ v ∈ outB bs ags R h, 0 ≤ v.k := fun v hv => by
  rcases List.mem_append.1 hv with h1 | h1
  · exact hh v h1
  · obtain ⟨x, _, rfl⟩ := List.mem_map.1 h1
    exact agg_kind _ x (same_kind hk)
theorem bad_of {bs : List Int} {ags : List Ag} {R : List (List V)} {h : List V} {x : Ag} (hx : x ∈ ags) (he : (aggB (sameB bs h R) x).2 ≠ 0) : badB bs ags R h = true := by
  unfold badB
  rw [List.any_eq_true]
  exact ⟨x, hx, by rw [decide_eq_false he]; rfl⟩
theorem bad_not {bs : List Int} {ags : List Ag} {R : List (List V)} {h : List V} (he : ∀ x ∈ ags, (aggB (sameB bs h R) x).2 = 0) : badB bs ags R h = false := by
  unfold badB
  rw [List.any_eq_false]
  intro x hx
  rw [decide_eq_true (he x hx)]
  decide
theorem heads_len (bs : List Int) : ∀ (rows : List (List V)) (hs : List (List V)), (∀ h ∈ hs, h.length = bs.length) → ∀ h ∈ rows.foldl (headStep bs) hs, h.length = bs.length
  | [], hs, hh => hh
  | r :: rows, hs, hh => by
    rw [List.foldl_cons]
    refine heads_len bs rows _ (fun h hm => ?_)
    unfold headStep at hm
    split at hm
    · exact hh h hm
    · rcases List.mem_append.1 hm with h1 | h1
      · exact hh h h1
      · rw [List.mem_singleton.1 h1]
        unfold hdOf
        rw [List.length_map]
theorem headsB_len {bs : List Int} {rows : List (List V)} : ∀ h ∈ headsB bs rows, h.length = bs.length := by
  refine heads_len bs rows _ (fun h hm => ?_)
  split at hm
  · next hb =>
    rw [List.mem_singleton.1 hm, hb]
    rfl
  · cases hm
theorem idKeys_succ (n : Nat) : idKeys (n + 1) = idKeys n ++ [⟨(n : Int), false⟩] := by
  unfold idKeys
  rw [List.range_succ, List.map_append]
  rfl
/-! The reference's groups are the groups: plain. -/
theorem tld_bad (g : List (List V)) : ∀ (ags : List Ag) (out : List V), (∃ x ∈ ags, (aggB g x).2 ≠ 0) → (tldB g out ags).1 = 220
  | [], out, h => by obtain ⟨x, hx, _⟩ := h; cases hx
  | x :: ags, out, h => by
    unfold tldB
    by_cases h0 : (aggB g x).2 = 0
    · rw [if_pos h0]
      refine tld_bad g ags _ ?_
      obtain ⟨y, hy, hy2⟩ := h
      rcases List.mem_cons.1 hy with rfl | hy
      · exact absurd h0 hy2
      · exact ⟨y, hy, hy2⟩
    · rw [if_neg h0]
      exact (told_err _ _).resolve_left h0
theorem tell_bad (bs : List Int) (ags : List Ag) : ∀ (gs : List (List (List V))) (out : List (List V)), (∃ g ∈ gs, ∃ x ∈ ags, (aggB g x).2 ≠ 0) → tellAll bs ags gs out = (220, [])
  | [], out, h => by obtain ⟨x, hx, _⟩ := h; cases hx
  | g :: gs, out, h => by
    unfold tellAll
    by_cases h0 : ∃ x ∈ ags, (aggB g x).2 ≠ 0
    · rw [tld_bad g ags _ h0, if_neg (by decide)]
    · have h1 : ∀ x ∈ ags, (aggB g x).2 = 0 := fun x hx => Classical.byContradiction (fun h2 => h0 ⟨x, hx, h2⟩)
      rw [tld_ok g ags _ h1, if_pos rfl]
      refine tell_bad bs ags gs _ ?_
      obtain ⟨y, hy, hy2⟩ := h
      rcases List.mem_cons.1 hy with rfl | hy
      · exact absurd hy2 h0
      · exact ⟨y, hy, hy2⟩
/-- Two lists of the same, one in order, one strictly so, are the same. -/
theorem asc_uniq {α : Type} {c : α → α → Int} (hneg : ∀ a b, c b a = - c a b) : ∀ (B A : List α), A.Perm B → A.Pairwise (fun a b => c a b ≤ 0) → B.Pairwise (fun a b => c a b < 0) → A = B
  | [], A, hp, _, _ => hp.eq_nil
  | b :: B, [], hp, _, _ => absurd hp.symm.eq_nil (List.cons_ne_nil _ _)
  | b :: B, a :: A, hp, ha, hb => by
    have ha2 := List.pairwise_cons.1 ha
    have hb2 := List.pairwise_cons.1 hb
    have hab : a = b := by
      have h1 : a ∈ b :: B := hp.mem_iff.1 List.mem_cons_self
      have h2 : b ∈ a :: A := hp.mem_iff.2 List.mem_cons_self
      rcases List.mem_cons.1 h1 with h1 | h1
      · exact h1
      · rcases List.mem_cons.1 h2 with h2 | h2
        · exact h2.symm
        · have x1 := hb2.1 a h1
          have x2 := ha2.1 b h2
          have x3 := hneg a b
          omega
    subst hab
    rw [asc_uniq hneg B A hp.cons_inv ha2.2 hb2.2]
theorem run_head (ks : List Ky) (S : List (List V)) (g : List (List V)) (hg : g ∈ runs ks S) : g.headD [] ∈ S := by
  have hsub := List.sublist_flatten_of_mem hg
  rw [runs_flat] at hsub
  exact hsub.subset (head_mem (runs_ne ks S g hg))
/-- A run is what stands alike with its first, of rows in order. -/
theorem run_filter (ks : List Ky) (S : List (List V)) : Asc (fun a b => cmpR a b ks) S → ∀ g ∈ runs ks S, g = S.filter (eqK ks (g.headD [])) := by
  refine runs_ind (ks := ks) (P := fun S => Asc (fun a b => cmpR a b ks) S → ∀ g ∈ runs ks S, g = S.filter (eqK ks (g.headD []))) (fun _ g hg => by cases hg) (fun r l ih ha => ?_) S
  have hp := List.pairwise_cons.1 ha
  obtain ⟨w1, d1⟩ := asc_tw ks r l (fun x hx => hp.1 x hx) hp.2
  have hsub : Asc (fun a b => cmpR a b ks) (l.dropWhile (eqK ks r)) := List.Pairwise.sublist (List.dropWhile_sublist _) hp.2
  rw [runs_cons]
  intro g hg
  rcases List.mem_cons.1 hg with rfl | hg
  · show r :: l.takeWhile (eqK ks r) = (r :: l).filter (eqK ks r)
    rw [w1, List.filter_cons, if_pos (by unfold eqK; rw [cmpR_refl]; rfl)]
  · have h1 := ih hsub g hg
    have hne := runs_ne ks _ g hg
    have hm : g.headD [] ∈ l.dropWhile (eqK ks r) := run_head ks _ g hg
    have hrn : eqK ks r (g.headD []) = false := by
      rw [d1] at hm
      have := (List.mem_filter.1 hm).2
      simpa using this
    have hz : ∀ x, eqK ks (g.headD []) x = true → eqK ks r x = false := fun x hx => by
      cases h3 : eqK ks r x with
      | false => rfl
      | true =>
        have h4 := eqK_tr ks _ _ r (eqK_symm ks _ _ hx)
        rw [eqK_symm ks _ _ h3] at h4
        rw [eqK_symm ks _ _ h4.symm] at hrn
        cases hrn
    have hl : l = l.takeWhile (eqK ks r) ++ l.dropWhile (eqK ks r) := List.takeWhile_append_dropWhile.symm
    have h5 : (l.takeWhile (eqK ks r)).filter (eqK ks (g.headD [])) = [] := List.filter_eq_nil_iff.2 (fun x hx hx2 => by
      rw [w1] at hx
      have h6 := (List.mem_filter.1 hx).2
      rw [hz x hx2] at h6
      cases h6)
    have h7 : eqK ks (g.headD []) r = false := by
      cases h8 : eqK ks (g.headD []) r with
      | false => rfl
      | true => rw [eqK_symm ks _ _ h8] at hrn; cases hrn
    rw [List.filter_cons, if_neg (by rw [h7]; decide), hl, List.filter_append, h5, List.nil_append]
    exact h1
/-- The first rows of runs rise. -/
theorem runs_rise (ks : List Ky) (S : List (List V)) : Asc (fun a b => cmpR a b ks) S → (runs ks S).Pairwise (fun g g' => cmpR (g.headD []) (g'.headD []) ks < 0) := by
  refine runs_ind (ks := ks) (P := fun S => Asc (fun a b => cmpR a b ks) S → (runs ks S).Pairwise (fun g g' => cmpR (g.headD []) (g'.headD []) ks < 0)) (fun _ => List.Pairwise.nil) (fun r l ih ha => ?_) S
  have hp := List.pairwise_cons.1 ha
  obtain ⟨w1, d1⟩ := asc_tw ks r l (fun x hx => hp.1 x hx) hp.2
  have hsub : Asc (fun a b => cmpR a b ks) (l.dropWhile (eqK ks r)) := List.Pairwise.sublist (List.dropWhile_sublist _) hp.2
  rw [runs_cons]
  refine List.pairwise_cons.2 ⟨fun g hg => ?_, ih hsub⟩
  have hm : g.headD [] ∈ l.dropWhile (eqK ks r) := run_head ks _ g hg
  have h1 : cmpR r (g.headD []) ks ≤ 0 := hp.1 _ ((List.dropWhile_sublist _).subset hm)
  rw [d1] at hm
  have h3 := (List.mem_filter.1 hm).2
  show cmpR r (g.headD []) ks < 0
  unfold eqK at h3
  simp only [Bool.not_eq_true', decide_eq_false_iff_not] at h3
  omega
theorem fit_right : ∀ (ks : List UInt8) (l : List V), fitL ks l = true → ∀ v ∈ l, rightB v = true
  | [], [], _, v, hv => by cases hv
  | [], _ :: _, h, _, _ => by simp [fitL] at h
  | _ :: _, [], _, v, hv => by cases hv
  | u :: ks, a :: l, h, v, hv => by
    simp only [fitL, Bool.and_eq_true] at h
    rcases List.mem_cons.1 hv with rfl | hv
    · have := h.1
      unfold fitV at this
      rw [Bool.and_eq_true] at this
      exact this.1
    · exact fit_right ks l h.2 v hv
theorem eqK_hd {bs : List Int} {a b : List V} (ha : goodR a) (hb : goodR b) : eqK (gkeys bs) a b = true ↔ hdOf bs a = hdOf bs b := ⟨hd_of_eqK ha hb bs, eqK_of_hd bs a b⟩
theorem heads_mem (bs : List Int) : ∀ (R hs : List (List V)) (h : List V), h ∈ R.foldl (headStep bs) hs ↔ h ∈ hs ∨ ∃ r ∈ R, hdOf bs r = h
  | [], hs, h => by simp
  | r :: R, hs, h => by
    rw [List.foldl_cons, heads_mem bs R]
    have h1 : h ∈ headStep bs hs r ↔ h ∈ hs ∨ hdOf bs r = h := by
      unfold headStep
      split
      · next h2 => exact ⟨.inl, fun h3 => h3.elim id (fun e => e ▸ h2)⟩
      · rw [List.mem_append, List.mem_singleton]
        exact ⟨fun h3 => h3.imp id Eq.symm, fun h3 => h3.imp id Eq.symm⟩
    rw [h1]
    constructor
    · rintro ((h2 | h2) | ⟨y, hy, h2⟩)
      · exact .inl h2
      · exact .inr ⟨r, List.mem_cons_self, h2⟩
      · exact .inr ⟨y, List.mem_cons_of_mem _ hy, h2⟩
    · rintro (h2 | ⟨y, hy, h2⟩)
      · exact .inl (.inl h2)
      · rcases List.mem_cons.1 hy with rfl | hy
        · exact .inl (.inr h2)
        · exact .inr ⟨y, hy, h2⟩
theorem heads_nodup (bs : List Int) : ∀ (R hs : List (List V)), hs.Nodup → (R.foldl (headStep bs) hs).Nodup
  | [], hs, h => h
  | r :: R, hs, h => by
    rw [List.foldl_cons]
    refine heads_nodup bs R _ ?_
    unfold headStep
    split
    · exact h
    · next h2 =>
      rw [List.nodup_append]
      exact ⟨h, by simp, fun a ha b hb e => h2 (by rw [List.mem_singleton] at hb; rw [← hb, ← e]; exact ha)⟩
/-- Told rows stand to each other as the first rows of their groups do. -/
theorem cmp_keys (A B a b : List V) : ∀ (bs : List Int) (k : Nat), (∀ i (h : i < bs.length), atV A ((k + i : Nat) : Int) = atV a bs[i] ∧ atV B ((k + i : Nat) : Int) = atV b bs[i]) →
    cmpR A B ((List.range' k bs.length).map (fun i : Nat => (⟨(i : Int), false⟩ : Ky))) = cmpR a b (gkeys bs)
  | [], k, _ => rfl
  | c :: bs, k, h => by
    have h0 := h 0 (by simp)
    simp only [Nat.add_zero, List.getElem_cons_zero] at h0
    have ih := cmp_keys A B a b bs (k + 1) (fun i hi => by
      have := h (i + 1) (by simpa using hi)
      rw [show k + (i + 1) = k + 1 + i by omega] at this
      simpa using this)
    rw [List.length_cons, List.range'_succ, List.map_cons]
    unfold gkeys at ih ⊢
    rw [List.map_cons]
    unfold cmpR
    simp only
    rw [h0.1, h0.2, ih]
theorem cmp_told (bs : List Int) (a b xs ys : List V) : cmpR (hdOf bs a ++ xs) (hdOf bs b ++ ys) (idKeys bs.length) = cmpR a b (gkeys bs) := by
  unfold idKeys
  rw [List.range_eq_range']
  refine cmp_keys _ _ a b bs 0 (fun i hi => ?_)
  have hh : ∀ (q zs : List V), atV (hdOf bs q ++ zs) ((0 + i : Nat) : Int) = atV q bs[i] := fun q zs => by
    rw [Nat.zero_add, atV_in (by rw [List.length_append]; unfold hdOf; rw [List.length_map]; omega)]
    rw [List.getElem_append_left (by unfold hdOf; rw [List.length_map]; exact hi)]
    unfold hdOf
    rw [List.getElem_map]
  exact ⟨hh a xs, hh b ys⟩
/-- The reference's answer is the answer. -/
theorem ref_grp (kinds : List UInt8) (R : List (List V)) (bs : List Int) (ags : List Ag) (hv : ∀ r ∈ R, ∀ v ∈ r, inI v.n) (hl : R.length ≤ 1000) : refB kinds R bs ags = grpB kinds R bs ags := by
  unfold refB grpB
  by_cases hE : kindsE kinds bs ags = 0
  · rw [if_pos hE, if_pos hE]
    by_cases hf : R.all (fitL kinds) = true
    · rw [if_pos hf, if_pos hf]
      have hgood : ∀ r ∈ R, goodR r := fun r hr v hvr => ⟨hv r hr v hvr, fit_right kinds r (List.all_eq_true.1 hf r hr) v hvr⟩
      have p : (sortL (gkeys bs) R).Perm R := sortB_perm _ _
      have ha : Asc (fun a b => cmpR a b (gkeys bs)) (sortL (gkeys bs) R) := sortB_asc _ (fun a b => cmpR_neg a b _) (ltrT _) R
      generalize sortL (gkeys bs) R = S at p ha
      have hgS : ∀ r ∈ S, goodR r := fun r hr => hgood r (p.mem_iff.1 hr)
      -- what the groups are
      have key : ∃ G : List (List (List V)), pend bs S true = G ∧ (∀ g ∈ G, (sameB bs (hdOf bs (g.headD [])) R).Perm g) ∧ (∀ g ∈ G, ∀ r ∈ g, goodR r) ∧ (∀ g ∈ G, g.length ≤ 1000) ∧
          G.Pairwise (fun g g' => cmpR (g.headD []) (g'.headD []) (gkeys bs) < 0) ∧ (G.map (fun g => hdOf bs (g.headD []))).Nodup ∧ ∀ h, h ∈ headsB bs R ↔ h ∈ G.map (fun g => hdOf bs (g.headD [])) := by
        by_cases hbs : bs = [] ∧ S = []
        · obtain ⟨rfl, rfl⟩ := hbs
          have hR : R = [] := p.symm.eq_nil
          subst hR
          refine ⟨[[]], if_pos ⟨⟨rfl, rfl⟩, rfl⟩, ?_, ?_, ?_, by simp, by simp, ?_⟩
          · intro g hg
            rw [List.mem_singleton.1 hg]
            exact List.Perm.refl _
          · intro g hg r hr
            rw [List.mem_singleton.1 hg] at hr
            cases hr
          · intro g hg
            rw [List.mem_singleton.1 hg]
            decide
          · intro h
            unfold headsB
            simp [hdOf]
        · have hsub : ∀ g ∈ runs (gkeys bs) S, List.Sublist g S := fun g hg => by
            have := List.sublist_flatten_of_mem hg
            rwa [runs_flat] at this
          have hrise := runs_rise (gkeys bs) S ha
          refine ⟨runs (gkeys bs) S, if_neg (fun h => hbs h.1), fun g hg => ?_, fun g hg r hr => hgS r ((hsub g hg).subset hr), fun g hg => by
            have := (hsub g hg).length_le
            rw [p.length_eq] at this
            omega, hrise, ?_, fun h => ?_⟩
          · have hh := hgS _ (run_head _ _ g hg)
            have e : sameB bs (hdOf bs (g.headD [])) R = R.filter (eqK (gkeys bs) (g.headD [])) := by
              unfold sameB
              refine List.filter_congr (fun r hr => ?_)
              cases h1 : eqK (gkeys bs) (g.headD []) r with
              | true => exact decide_eq_true ((eqK_hd hh (hgood r hr)).1 h1).symm
              | false => exact decide_eq_false (fun h2 => by rw [(eqK_hd hh (hgood r hr)).2 h2.symm] at h1; cases h1)
            have h3 := run_filter _ S ha g hg
            rw [e]
            have h4 := p.symm.filter (eqK (gkeys bs) (g.headD []))
            rw [← h3] at h4
            exact h4
          · unfold List.Nodup
            rw [List.pairwise_map]
            refine List.Pairwise.imp_of_mem (fun {g g'} hg hg' hlt he => ?_) hrise
            have h1 := (eqK_hd (hgS _ (run_head _ _ g hg)) (hgS _ (run_head _ _ g' hg'))).2 he
            unfold eqK at h1
            have h2 := of_decide_eq_true h1
            omega
          · have hmem : (∃ r ∈ R, hdOf bs r = h) ↔ h ∈ (runs (gkeys bs) S).map (fun g => hdOf bs (g.headD [])) := by
              constructor
              · rintro ⟨r, hr, rfl⟩
                have hrS := p.mem_iff.2 hr
                have h1 : r ∈ (runs (gkeys bs) S).flatten := by rw [runs_flat]; exact hrS
                obtain ⟨g, hg, hrg⟩ := List.mem_flatten.1 h1
                exact List.mem_map.2 ⟨g, hg, (eqK_hd (hgS _ (run_head _ _ g hg)) (hgS r hrS)).1 (runs_alike _ S g hg r hrg)⟩
              · intro hm
                obtain ⟨g, hg, rfl⟩ := List.mem_map.1 hm
                exact ⟨_, p.mem_iff.1 (run_head _ _ g hg), rfl⟩
            rw [← hmem]
            unfold headsB
            rw [heads_mem]
            constructor
            · rintro (h1 | h1)
              · split at h1
                · next hb =>
                  have hS : S ≠ [] := fun e => hbs ⟨hb, e⟩
                  obtain ⟨r, hr⟩ := List.exists_mem_of_ne_nil S hS
                  refine ⟨r, p.mem_iff.1 hr, ?_⟩
                  rw [List.mem_singleton.1 h1, hb]
                  rfl
                · cases h1
              · exact h1
            · exact .inr
      obtain ⟨G, hG, f1, f2, f3, f4, f5, f6⟩ := key
      rw [hG]
      have hnd : (headsB bs R).Nodup := heads_nodup bs R _ (by split <;> simp)
      have hpm : (headsB bs R).Perm (G.map (fun g => hdOf bs (g.headD []))) := (List.perm_ext_iff_of_nodup hnd f5).2 f6
      have hag : ∀ g ∈ G, ∀ x, aggB (sameB bs (hdOf bs (g.headD [])) R) x = aggB g x := fun g hg x => (agg_perm (f1 g hg).symm (by have := f3 g hg; omega) (f2 g hg) x).symm
      by_cases hbad : ∃ g ∈ G, ∃ x ∈ ags, (aggB g x).2 ≠ 0
      · rw [tell_bad bs ags G [] hbad, if_pos]
        obtain ⟨g, hg, x, hx, he⟩ := hbad
        exact List.any_eq_true.2 ⟨_, hpm.mem_iff.2 (List.mem_map_of_mem hg), bad_of hx (by rw [hag g hg x]; exact he)⟩
      · have hok : ∀ g ∈ G, ∀ x ∈ ags, (aggB g x).2 = 0 := fun g hg x hx => Classical.byContradiction (fun h => hbad ⟨g, hg, x, hx, h⟩)
        rw [tell_ok bs ags G [] hok, if_neg, List.nil_append]
        · congr 1
          have e : (G.map (fun g => hdOf bs (g.headD []))).map (outB bs ags R) = G.map (toldRow bs ags) := by
            rw [List.map_map]
            refine List.map_congr_left (fun g hg => ?_)
            show hdOf bs (g.headD []) ++ ags.map (fun x => (aggB (sameB bs (hdOf bs (g.headD [])) R) x).1) = toldRow bs ags g
            unfold toldRow
            congr 1
            exact List.map_congr_left (fun x _ => by rw [hag g hg x])
          refine asc_uniq (c := fun a b => cmpR a b (idKeys bs.length)) (fun a b => cmpR_neg a b _) _ _ ?_ (sortB_asc (fun a b => cmpR a b (idKeys bs.length)) (fun a b => cmpR_neg a b _) (ltrT _) _) ?_
          · rw [← e]
            exact (sortB_perm _ _).trans (hpm.map _)
          · rw [List.pairwise_map]
            refine List.Pairwise.imp (fun {g g'} h => ?_) f4
            show cmpR (hdOf bs (g.headD []) ++ _) (hdOf bs (g'.headD []) ++ _) (idKeys bs.length) < 0
            rw [cmp_told]
            exact h
        · rw [List.any_eq_true]
          rintro ⟨h, hh, hb⟩
          obtain ⟨g, hg, rfl⟩ := List.mem_map.1 (hpm.mem_iff.1 hh)
          rw [bad_not (fun x hx => by rw [hag g hg x]; exact hok g hg x hx)] at hb
          cases hb
    · rw [if_neg hf, if_neg hf]
  · rw [if_neg hE, if_neg hE]
end Go.Proofs.Ytbiniecjenencaa
