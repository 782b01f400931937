/- What is told of groups does not hang on the order of rows: plain. -/
import Derived.Test.YtbiniecjenencaaGSums
import Derived.Test.YtbiniecjenencaaGCounts
import Derived.Test.YtbiniecjenencaaMrgP
set_option linter.unusedVariables false
set_option linter.unusedSimpArgs false
set_option maxRecDepth 10000
namespace Go.Proofs.Ytbiniecjenencaa
open Go.RowKit
def nnV (vs : List V) : List V := vs.filter (fun v => decide (v.k ≠ 0))
/-- The least and the greatest of what is something. -/
structure MinOf (a b : V) (vs : List V) : Prop where
  e : nnV vs = [] → a = V.zero ∧ b = V.zero
  m : nnV vs ≠ [] → a ∈ nnV vs ∧ b ∈ nnV vs
  le : ∀ v ∈ nnV vs, cmpV a v ≤ 0 ∧ cmpV v b ≤ 0
theorem cmpV_self (a : V) : cmpV a a = 0 := cmpV_zero.2 rfl
theorem MinOf.perm {a b a' b' : V} {vs vs' : List V} (h : MinOf a b vs) (h' : MinOf a' b' vs') (p : vs.Perm vs') : a = a' ∧ b = b' := by
  have hp : (nnV vs).Perm (nnV vs') := p.filter _
  by_cases he : nnV vs = []
  · have he' : nnV vs' = [] := by
      have := hp.length_eq
      rw [he] at this
      exact List.eq_nil_of_length_eq_zero this.symm
    obtain ⟨e1, e2⟩ := h.e he
    obtain ⟨e3, e4⟩ := h'.e he'
    exact ⟨e1.trans e3.symm, e2.trans e4.symm⟩
  · have he' : nnV vs' ≠ [] := fun e => he (by
      have := hp.length_eq
      rw [e] at this
      exact List.eq_nil_of_length_eq_zero this)
    obtain ⟨a1, b1⟩ := h.m he
    obtain ⟨a2, b2⟩ := h'.m he'
    have x1 := (h.le a' (hp.mem_iff.2 a2)).1
    have x2 := (h'.le a (hp.mem_iff.1 a1)).1
    have y1 := (h.le b' (hp.mem_iff.2 b2)).2
    have y2 := (h'.le b (hp.mem_iff.1 b1)).2
    have n1 := cmpV_neg a a'
    have n2 := cmpV_neg b b'
    exact ⟨cmpV_zero.1 (by omega), cmpV_zero.1 (by omega)⟩
structure KnMin (K : Kn) (vs : List V) : Prop where
  s : K.some = (nnV vs).length
  m : MinOf K.least K.most vs
theorem nnV_snoc (vs : List V) (v : V) : nnV (vs ++ [v]) = if v.k = 0 then nnV vs else nnV vs ++ [v] := by
  unfold nnV
  rw [List.filter_append]
  by_cases h : v.k = 0
  · rw [if_pos h]; simp [h]
  · rw [if_neg h]; simp [h]
theorem kn_min_add {K : Kn} {vs : List V} (h : KnMin K vs) (v : V) : KnMin (K.add v) (vs ++ [v]) := by
  obtain ⟨hs, he, hm, hl⟩ := h
  unfold Kn.add
  by_cases hk : v.k = 0
  · rw [if_pos hk]
    have hn : nnV (vs ++ [v]) = nnV vs := by rw [nnV_snoc, if_pos hk]
    exact ⟨by rw [hn]; exact hs, ⟨fun h => he (hn ▸ h), fun h => by rw [hn] at h ⊢; exact hm h, fun u hu => hl u (hn ▸ hu)⟩⟩
  · rw [if_neg hk]
    have hn : nnV (vs ++ [v]) = nnV vs ++ [v] := by rw [nnV_snoc, if_neg hk]
    refine ⟨by rw [hn, List.length_append, List.length_singleton]; simp only; omega, ?_⟩
    have hne : nnV (vs ++ [v]) ≠ [] := by rw [hn]; simp
    by_cases h0 : K.some = 0
    · have hz : nnV vs = [] := List.eq_nil_of_length_eq_zero (by omega)
      simp only [h0, true_or, if_true]
      refine ⟨fun h => absurd h hne, fun _ => by rw [hn]; simp, fun u hu => ?_⟩
      rw [hn, hz, List.nil_append, List.mem_singleton] at hu
      rw [hu, cmpV_self]
      exact ⟨Int.le_refl _, Int.le_refl _⟩
    · have hz : nnV vs ≠ [] := fun e => h0 (by rw [hs, e]; rfl)
      obtain ⟨ma, mb⟩ := hm hz
      simp only [h0, false_or]
      refine ⟨fun h => absurd h hne, fun _ => ?_, fun u hu => ?_⟩
      · rw [hn]
        constructor
        · split
          · simp
          · exact List.mem_append_left _ ma
        · split
          · simp
          · exact List.mem_append_left _ mb
      · rw [hn] at hu
        have n1 := cmpV_neg v K.least
        have n2 := cmpV_neg v K.most
        rcases List.mem_append.1 hu with hu | hu
        · obtain ⟨l1, l2⟩ := hl u hu
          have t1 := cmpV_tri v K.least u
          have t2 := cmpV_tri u K.most v
          unfold Tri at t1 t2
          have n3 := cmpV_neg K.most v
          constructor
          · split
            · omega
            · exact l1
          · split
            · omega
            · exact l2
        · rw [List.mem_singleton] at hu
          subst hu
          constructor
          · split
            · rw [cmpV_self]; exact Int.le_refl _
            · omega
          · split
            · rw [cmpV_self]; exact Int.le_refl _
            · omega
theorem kn_min_fold : ∀ (ws : List V) (K : Kn) (vs : List V), KnMin K vs → KnMin (ws.foldl Kn.add K) (vs ++ ws)
  | [], K, vs, h => by simpa using h
  | v :: ws, K, vs, h => by
    have := kn_min_fold ws _ _ (kn_min_add h v)
    rw [List.foldl_cons]
    simpa using this
theorem kn_min (vs : List V) : KnMin (vs.foldl Kn.add Kn.zero) vs := by
  have := kn_min_fold vs Kn.zero [] ⟨rfl, ⟨fun _ => ⟨rfl, rfl⟩, fun h => absurd rfl h, fun v hv => by cases hv⟩⟩
  simpa using this
/-- What is known does not hang on the order. -/
theorem kn_perm {vs vs' : List V} (p : vs.Perm vs') (hl : vs.length ≤ 1000000) (hv : ∀ v ∈ vs, inI v.n) : vs.foldl Kn.add Kn.zero = vs'.foldl Kn.add Kn.zero := by
  have h1 := kn_inv vs hl hv
  have h2 := kn_inv vs' (by rw [← p.length_eq]; exact hl) (fun v h => hv v (p.mem_iff.2 h))
  have m1 := kn_min vs
  have m2 := kn_min vs'
  obtain ⟨e1, e2⟩ := m1.m.perm m2.m p
  have hs := sumV_perm p
  have hc := cntV_perm p
  have hlen := p.length_eq
  generalize vs.foldl Kn.add Kn.zero = K at h1 m1 e1 e2
  generalize vs'.foldl Kn.add Kn.zero = K' at h2 m2 e1 e2
  obtain ⟨r1, s1, hi1, lo1, a1, b1⟩ := K
  obtain ⟨r2, s2, hi2, lo2, a2, b2⟩ := K'
  obtain ⟨x1, x2, x3, x4, x5, _, _⟩ := h1
  obtain ⟨y1, y2, y3, y4, y5, _, _⟩ := h2
  simp only at x1 x2 x3 x4 x5 y1 y2 y3 y4 y5 e1 e2
  rw [hs] at x5
  have f1 : r1 = r2 := by rw [x1, y1, hlen]
  have f2 : s1 = s2 := by rw [x2, y2, hc]
  have f3 : hi1 = hi2 := by omega
  have f4 : lo1 = lo2 := by omega
  rw [f1, f2, f3, f4, e1, e2]
/-- A row whose values may be. -/
def goodR (r : List V) : Prop := ∀ v ∈ r, inI v.n ∧ rightB v = true
theorem inI_zero : inI V.zero.n := by unfold inI; exact ⟨by decide, by decide⟩
theorem atV_in2 {r : List V} (h : goodR r) (c : Int) : inI (atV r c).n := by
  unfold atV
  split
  · rw [List.getD_eq_getElem?_getD]
    cases e : r[c.toNat]? with
    | none => exact inI_zero
    | some v => exact (h v (List.mem_of_getElem? e)).1
  · exact inI_zero
theorem right_zero : rightB V.zero = true := by decide +kernel
theorem atV_right {r : List V} (h : goodR r) (c : Int) : rightB (atV r c) = true := by
  unfold atV
  split
  · rw [List.getD_eq_getElem?_getD]
    cases e : r[c.toNat]? with
    | none => exact right_zero
    | some v => exact (h v (List.mem_of_getElem? e)).2
  · exact right_zero
theorem agg_perm {g g' : List (List V)} (p : g.Perm g') (hl : g.length ≤ 1000000) (hg : ∀ r ∈ g, goodR r) (x : Ag) : aggB g x = aggB g' x := by
  unfold aggB knOf
  rw [kn_perm (p.map (vOf x)) (by rw [List.length_map]; exact hl) (fun v hv => by
    obtain ⟨r, hr, rfl⟩ := List.mem_map.1 hv
    unfold vOf
    split
    · exact inI_zero
    · exact atV_in2 (hg r hr) _)]
theorem tld_perm {g g' : List (List V)} (p : g.Perm g') (hl : g.length ≤ 1000000) (hg : ∀ r ∈ g, goodR r) : ∀ (ags : List Ag) (out : List V), tldB g out ags = tldB g' out ags
  | [], out => rfl
  | x :: l, out => by
    unfold tldB
    rw [agg_perm p hl hg x, tld_perm p hl hg l]
/-- Rows that stand alike have the same values by which they are grouped. -/
theorem hd_of_eqK {a b : List V} (ha : goodR a) (hb : goodR b) : ∀ (bs : List Int), eqK (gkeys bs) a b = true → hdOf bs a = hdOf bs b
  | [], _ => rfl
  | c :: bs, h => by
    unfold eqK gkeys at h
    rw [decide_eq_true_eq, List.map_cons] at h
    unfold cmpR at h
    simp only at h
    have ra := atV_right ha c
    have rb := atV_right hb c
    by_cases h0 : oneC (atV a c) (atV b c) false = 0
    · rw [if_pos h0] at h
      have ih := hd_of_eqK ha hb bs (decide_eq_true h)
      unfold hdOf at ih ⊢
      rw [List.map_cons, List.map_cons, ih]
      congr 1
      have hz : ∀ u : V, rightB u = true → u.k = 0 → u = V.zero := fun u hu hk => by
        have hp : rightP u := of_decide_eq_true hu
        obtain ⟨k, n, s⟩ := u
        unfold rightP at hp
        simp only at hp hk
        subst hk
        rcases hp with ⟨_, h1, h2⟩ | ⟨h1, _⟩ | ⟨h1, _⟩ | ⟨h1, _⟩
        · rw [h1, emp h2]; rfl
        · cases h1
        · cases h1
        · cases h1
      unfold oneC at h0
      by_cases hk : (atV a c).k = 0 ∧ (atV b c).k = 0
      · rw [hz _ ra hk.1, hz _ rb hk.2]
      · rw [if_neg hk] at h0
        by_cases hk1 : (atV a c).k = 0
        · rw [if_pos hk1] at h0; cases h0
        · rw [if_neg hk1] at h0
          by_cases hk2 : (atV b c).k = 0
          · rw [if_pos hk2] at h0; cases h0
          · rw [if_neg hk2, if_neg (by decide)] at h0
            exact cmpV_zero.1 h0
    · rw [if_neg h0] at h
      exact absurd h h0
/-- In rows that are in order, those that stand alike with the first one come first. -/
theorem asc_tw (ks : List Ky) (r : List V) : ∀ l : List (List V), (∀ x ∈ l, cmpR r x ks ≤ 0) → Asc (fun a b => cmpR a b ks) l → l.takeWhile (eqK ks r) = l.filter (eqK ks r) ∧ l.dropWhile (eqK ks r) = l.filter (fun x => !eqK ks r x)
  | [], _, _ => ⟨rfl, rfl⟩
  | a :: l, h, hp => by
    have hp2 := List.pairwise_cons.1 hp
    cases e : eqK ks r a with
    | true =>
      obtain ⟨h1, h2⟩ := asc_tw ks r l (fun x hx => h x (List.mem_cons_of_mem _ hx)) hp2.2
      rw [List.takeWhile_cons, List.dropWhile_cons, e, List.filter_cons, List.filter_cons, e, if_pos rfl, if_pos rfl, if_pos rfl, if_neg (by decide), h1, h2]
      exact ⟨rfl, rfl⟩
    | false =>
      have hne : ∀ x ∈ a :: l, eqK ks r x = false := fun x hx => by
        rcases List.mem_cons.1 hx with rfl | hx
        · exact e
        · have h1 := h a List.mem_cons_self
          have h2 := hp2.1 x hx
          have h3 := cmpR_tri r a x ks
          unfold Tri at h3
          unfold eqK at e ⊢
          rw [decide_eq_false_iff_not] at e ⊢
          intro h4
          exact e ((h3.1 h1 h2).2 h4).1
      rw [List.takeWhile_cons, List.dropWhile_cons, e, if_neg (by decide), if_neg (by decide), List.filter_eq_nil_iff.2 (fun x hx => by rw [hne x hx]; decide), List.filter_eq_self.2 (fun x hx => by rw [hne x hx]; rfl)]
      exact ⟨rfl, rfl⟩
theorem asc_le (ks : List Ky) {r : List V} {l : List (List V)} (h : Asc (fun a b => cmpR a b ks) (r :: l)) : ∀ x ∈ r :: l, cmpR r x ks ≤ 0 := fun x hx => by
  rcases List.mem_cons.1 hx with rfl | hx
  · rw [cmpR_refl]; exact Int.le_refl _
  · exact (List.pairwise_cons.1 h).1 x hx
theorem tell_perm (bs : List Int) (ags : List Ag) : ∀ (n : Nat) (S S' : List (List V)), S.length ≤ n → Asc (fun a b => cmpR a b (gkeys bs)) S → Asc (fun a b => cmpR a b (gkeys bs)) S' → S.Perm S' → (∀ r ∈ S, goodR r) → S.length ≤ 1000000 → ∀ out, tellAll bs ags (runs (gkeys bs) S) out = tellAll bs ags (runs (gkeys bs) S') out := by
  intro n
  induction n with
  | zero =>
    intro S S' hn _ _ p _ _ out
    have h1 : S = [] := List.eq_nil_of_length_eq_zero (by omega)
    have h2 : S' = [] := List.eq_nil_of_length_eq_zero (by rw [← p.length_eq]; omega)
    rw [h1, h2]
  | succ n ih =>
    intro S S' hn a1 a2 p hg hl out
    cases S with
    | nil =>
      have h2 : S' = [] := List.eq_nil_of_length_eq_zero (by rw [← p.length_eq]; rfl)
      rw [h2]
    | cons r l =>
      cases S' with
      | nil => have := p.length_eq; simp at this
      | cons r' l' =>
        have m1 : r' ∈ r :: l := p.mem_iff.2 List.mem_cons_self
        have m2 : r ∈ r' :: l' := p.mem_iff.1 List.mem_cons_self
        have l1 := asc_le _ a1 r' m1
        have l2 := asc_le _ a2 r m2
        have hneg := cmpR_neg r r' (gkeys bs)
        have hz : cmpR r r' (gkeys bs) = 0 := by omega
        have hz2 : cmpR r' r (gkeys bs) = 0 := by omega
        have hpe : ∀ x, eqK (gkeys bs) r' x = eqK (gkeys bs) r x := fun x => by
          have t1 := cmpR_tri r' r x (gkeys bs)
          have t2 := cmpR_tri r r' x (gkeys bs)
          unfold Tri at t1 t2
          unfold eqK
          by_cases h : cmpR r x (gkeys bs) = 0
          · rw [decide_eq_true h, decide_eq_true (t1.2 hz2 h)]
          · rw [decide_eq_false h, decide_eq_false (fun h2 => h (t2.2 hz h2))]
        have hfe : eqK (gkeys bs) r' = eqK (gkeys bs) r := funext hpe
        obtain ⟨w1, d1⟩ := asc_tw (gkeys bs) r (r :: l) (asc_le _ a1) a1
        obtain ⟨w2, d2⟩ := asc_tw (gkeys bs) r' (r' :: l') (asc_le _ a2) a2
        rw [tw_pos] at w1 w2
        rw [dw_pos] at d1 d2
        rw [hfe] at w2 d2
        have pg : (r :: l.takeWhile (eqK (gkeys bs) r)).Perm (r' :: l'.takeWhile (eqK (gkeys bs) r)) := by rw [w1, w2]; exact p.filter _
        have pd : (l.dropWhile (eqK (gkeys bs) r)).Perm (l'.dropWhile (eqK (gkeys bs) r)) := by rw [d1, d2]; exact p.filter _
        have hgl : (r :: l.takeWhile (eqK (gkeys bs) r)).length ≤ 1000000 := by
          rw [w1]
          exact Nat.le_trans (List.length_filter_le _ _) hl
        have hgg : ∀ x ∈ r :: l.takeWhile (eqK (gkeys bs) r), goodR x := fun x hx => by
          rw [w1] at hx
          exact hg x (List.mem_filter.1 hx).1
        have hhd : hdOf bs r = hdOf bs r' := hd_of_eqK (hg r List.mem_cons_self) (hg r' m1) bs (decide_eq_true hz)
        have ht : tldB (r :: l.takeWhile (eqK (gkeys bs) r)) (hdOf bs r) ags = tldB (r' :: l'.takeWhile (eqK (gkeys bs) r)) (hdOf bs r') ags := by
          rw [hhd]
          exact tld_perm pg hgl hgg ags _
        have hdl : (l.dropWhile (eqK (gkeys bs) r)).length ≤ n := by
          have := dw_len (eqK (gkeys bs) r) l
          simp only [List.length_cons] at hn
          omega
        have hih := ih _ _ hdl (by rw [d1]; exact a1.filter _) (by rw [d2]; exact a2.filter _) pd (fun x hx => hg x (by rw [d1] at hx; exact (List.mem_filter.1 hx).1)) (by
          have := dw_len (eqK (gkeys bs) r) l
          simp only [List.length_cons] at hl
          omega)
        rw [runs_cons, runs_cons, hfe]
        show (if (tldB (r :: l.takeWhile (eqK (gkeys bs) r)) (hdOf bs r) ags).1 = 0 then tellAll bs ags (runs (gkeys bs) (l.dropWhile (eqK (gkeys bs) r))) (out ++ [(tldB (r :: l.takeWhile (eqK (gkeys bs) r)) (hdOf bs r) ags).2]) else ((tldB (r :: l.takeWhile (eqK (gkeys bs) r)) (hdOf bs r) ags).1, [])) = (if (tldB (r' :: l'.takeWhile (eqK (gkeys bs) r)) (hdOf bs r') ags).1 = 0 then tellAll bs ags (runs (gkeys bs) (l'.dropWhile (eqK (gkeys bs) r))) (out ++ [(tldB (r' :: l'.takeWhile (eqK (gkeys bs) r)) (hdOf bs r') ags).2]) else ((tldB (r' :: l'.takeWhile (eqK (gkeys bs) r)) (hdOf bs r') ags).1, []))
        rw [ht, hih]
/-- The order of rows does not count. -/
theorem grp_perm (kinds : List UInt8) {R R' : List (List V)} (p : R.Perm R') (bs : List Int) (ags : List Ag) (hv : ∀ r ∈ R, ∀ v ∈ r, inI v.n) (hl : R.length ≤ 1000000) : grpB kinds R bs ags = grpB kinds R' bs ags := by
  unfold grpB
  by_cases hE : kindsE kinds bs ags = 0
  · rw [if_pos hE, if_pos hE]
    have hall : R'.all (fitL kinds) = R.all (fitL kinds) := by
      rw [Bool.eq_iff_iff, List.all_eq_true, List.all_eq_true]
      exact ⟨fun h x hx => h x (p.mem_iff.1 hx), fun h x hx => h x (p.mem_iff.2 hx)⟩
    rw [hall]
    by_cases hf : R.all (fitL kinds) = true
    · rw [if_pos hf, if_pos hf]
      have hfit : ∀ (ks : List UInt8) (l : List V), fitL ks l = true → ∀ v ∈ l, rightB v = true := by
        intro ks
        induction ks with
        | nil => intro l h v hv; cases l with
          | nil => cases hv
          | cons a l => simp [fitL] at h
        | cons u ks ih =>
          intro l h v hv
          cases l with
          | nil => cases hv
          | cons a l =>
            simp only [fitL, Bool.and_eq_true] at h
            rcases List.mem_cons.1 hv with rfl | hv
            · have := h.1
              unfold fitV at this
              rw [Bool.and_eq_true] at this
              exact this.1
            · exact ih l h.2 v hv
      have hgood : ∀ r ∈ R, goodR r := fun r hr v hvr => ⟨hv r hr v hvr, hfit kinds r (List.all_eq_true.1 hf r hr) v hvr⟩
      have p1 : (sortL (gkeys bs) R).Perm R := sortB_perm _ _
      have p2 : (sortL (gkeys bs) R').Perm R' := sortB_perm _ _
      have hneg : ∀ a b : List V, cmpR b a (gkeys bs) = - cmpR a b (gkeys bs) := fun a b => cmpR_neg a b _
      have htr : ∀ a b d : List V, cmpR a b (gkeys bs) ≤ 0 → cmpR b d (gkeys bs) ≤ 0 → cmpR a d (gkeys bs) ≤ 0 := fun a b d h1 h2 => by
        have := cmpR_tri a b d (gkeys bs)
        unfold Tri at this
        exact (this.1 h1 h2).1
      have a1 : Asc (fun a b => cmpR a b (gkeys bs)) (sortL (gkeys bs) R) := sortB_asc _ hneg htr R
      have a2 : Asc (fun a b => cmpR a b (gkeys bs)) (sortL (gkeys bs) R') := sortB_asc _ hneg htr R'
      have pp : (sortL (gkeys bs) R).Perm (sortL (gkeys bs) R') := p1.trans (p.trans p2.symm)
      have hg1 : ∀ r ∈ sortL (gkeys bs) R, goodR r := fun r hr => hgood r (p1.mem_iff.1 hr)
      have hl1 : (sortL (gkeys bs) R).length ≤ 1000000 := by rw [p1.length_eq]; exact hl
      generalize sortL (gkeys bs) R = S at a1 pp hg1 hl1
      generalize sortL (gkeys bs) R' = S' at a2 pp
      have hnil : S = [] ↔ S' = [] := by
        constructor
        · intro h; exact List.eq_nil_of_length_eq_zero (by rw [← pp.length_eq, h]; rfl)
        · intro h; exact List.eq_nil_of_length_eq_zero (by rw [pp.length_eq, h]; rfl)
      unfold pend
      by_cases hb : bs = [] ∧ S = []
      · rw [if_pos ⟨hb, rfl⟩, if_pos ⟨⟨hb.1, hnil.1 hb.2⟩, rfl⟩]
      · rw [if_neg (fun h => hb h.1), if_neg (fun h => hb ⟨h.1.1, hnil.2 h.1.2⟩)]
        exact tell_perm bs ags S.length S S' (Nat.le_refl _) a1 a2 pp hg1 hl1 []
    · rw [if_neg hf, if_neg hf]
  · rw [if_neg hE, if_neg hE]
end Go.Proofs.Ytbiniecjenencaa
