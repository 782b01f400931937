/- Groups of groups: plain. -/
import Derived.Test.YtbiniecjenencaaGPerm
import Derived.Test.YtbiniecjenencaaGCounts
set_option linter.unusedVariables false
set_option linter.unusedSimpArgs false
set_option maxRecDepth 10000
namespace Go.Proofs.Ytbiniecjenencaa
open Go.RowKit
/-- Runs of two lists of which the second begins with a row that stands like none of the first. -/
theorem runs_app (ks : List Ky) (B : List (List V)) (A : List (List V)) : (∀ x ∈ A, ∀ y, B.head? = some y → eqK ks x y = false) → runs ks (A ++ B) = runs ks A ++ runs ks B := by
  refine runs_ind (ks := ks) (P := fun A => (∀ x ∈ A, ∀ y, B.head? = some y → eqK ks x y = false) → runs ks (A ++ B) = runs ks A ++ runs ks B) (fun _ => rfl) (fun r l ih h => ?_) A
  rw [List.cons_append, runs_cons, runs_cons ks r l, List.cons_append]
  have hB : B.takeWhile (eqK ks r) = [] ∧ B.dropWhile (eqK ks r) = B := by
    cases B with
    | nil => exact ⟨rfl, rfl⟩
    | cons y ys =>
      have := h r List.mem_cons_self y rfl
      simp [List.takeWhile_cons, List.dropWhile_cons, this]
  have hl := List.takeWhile_append_dropWhile (p := eqK ks r) (l := l)
  by_cases hd : l.dropWhile (eqK ks r) = []
  · have ht : l.takeWhile (eqK ks r) = l := by rw [hd, List.append_nil] at hl; exact hl
    rw [List.takeWhile_append, List.dropWhile_append, ht, hd, hB.1, hB.2]
    simp [runs_nil]
  · have hne : ¬ (l.takeWhile (eqK ks r)).length = l.length := fun e => hd (by
      have := congrArg List.length hl
      rw [List.length_append] at this
      exact List.eq_nil_of_length_eq_zero (by omega))
    have hne2 : ¬ (l.dropWhile (eqK ks r)).isEmpty = true := by simpa using hd
    rw [List.takeWhile_append, if_neg hne, List.dropWhile_append, if_neg hne2, ih (fun x hx => h x (List.mem_cons_of_mem _ (List.dropWhile_subset _ hx)))]
/-- Runs by more keys lie within the runs by fewer. -/
theorem runs_sub {K0 K1 : List Ky} (sub : ∀ a b, eqK K1 a b = true → eqK K0 a b = true) (tr : ∀ a b c, eqK K0 a b = true → eqK K0 a c = eqK K0 b c) (l : List (List V)) : runs K1 l = (runs K0 l).flatMap (runs K1) := by
  refine runs_ind (ks := K0) (P := fun l => runs K1 l = (runs K0 l).flatMap (runs K1)) rfl (fun r l ih => ?_) l
  rw [runs_cons K0, List.flatMap_cons, ← ih, ← runs_app, List.cons_append, List.takeWhile_append_dropWhile]
  intro x hx y hy
  obtain ⟨ys, hys⟩ := List.head?_eq_some_iff.1 hy
  have h0 := dw_head _ _ _ _ hys
  cases h1 : eqK K1 x y with
  | false => rfl
  | true =>
    exfalso
    have h2 := sub _ _ h1
    rcases List.mem_cons.1 hx with rfl | hx
    · rw [h2] at h0; cases h0
    · have h3 := List.all_eq_true.1 List.all_takeWhile x hx
      rw [tr r x y h3, h2] at h0
      cases h0
theorem eqK_tr (ks : List Ky) (a b c : List V) (h : eqK ks a b = true) : eqK ks a c = eqK ks b c := by
  unfold eqK at h ⊢
  have h1 := of_decide_eq_true h
  have h2 := cmpR_tri a b c ks
  have h3 := cmpR_tri b a c ks
  have h4 := cmpR_neg a b ks
  unfold Tri at h2 h3
  have : cmpR a c ks = 0 ↔ cmpR b c ks = 0 := by omega
  simp only [this]
theorem eqK_sub (c : Int) (bs : List Int) (a b : List V) (h : eqK (gkeys (c :: bs)) a b = true) : eqK (gkeys [c]) a b = true := by
  unfold eqK at h ⊢
  have h1 := of_decide_eq_true h
  refine decide_eq_true ?_
  simp only [gkeys, List.map_cons, List.map_nil, cmpR] at h1 ⊢
  split at h1
  · next h2 => rw [if_pos h2]
  · next h2 => exact absurd h1 h2
/-- Runs by two columns lie within the runs by one. -/
theorem runs_cols (c : Int) (bs : List Int) (l : List (List V)) : runs (gkeys (c :: bs)) l = (runs (gkeys [c]) l).flatMap (runs (gkeys (c :: bs))) := runs_sub (eqK_sub c bs) (eqK_tr _) l
theorem cmpR_le1 (c : Int) (bs : List Int) (a b : List V) (h : cmpR a b (gkeys (c :: bs)) ≤ 0) : cmpR a b (gkeys [c]) ≤ 0 := by
  simp only [gkeys, List.map_cons, List.map_nil, cmpR] at h ⊢
  split
  · decide
  · next h2 => rw [if_neg h2] at h; exact h
theorem ltrT (ks : List Ky) : ∀ a b d : List V, cmpR a b ks ≤ 0 → cmpR b d ks ≤ 0 → cmpR a d ks ≤ 0 := fun a b d h1 h2 => by
  have := cmpR_tri a b d ks
  unfold Tri at this
  omega
/-- Rows in order by two columns are in order by the first. -/
theorem sort_cols (c : Int) (bs : List Int) (R : List (List V)) : sortL (gkeys [c]) (sortL (gkeys (c :: bs)) R) = sortL (gkeys (c :: bs)) R :=
  sortB_of_asc (fun a b => cmpR a b (gkeys [c])) (fun a b => cmpR_neg a b _) (ltrT _) _ (List.Pairwise.imp (fun h => cmpR_le1 c bs _ _ h) (sortB_asc (fun a b => cmpR a b (gkeys (c :: bs))) (fun a b => cmpR_neg a b _) (ltrT _) R))
/-- What is told of a group where nothing goes wrong. -/
theorem tld_ok (g : List (List V)) : ∀ (ags : List Ag) (out : List V), (∀ x ∈ ags, (aggB g x).2 = 0) → tldB g out ags = (0, out ++ ags.map (fun x => (aggB g x).1))
  | [], out, _ => by simp [tldB]
  | x :: ags, out, h => by
    unfold tldB
    rw [if_pos (h x List.mem_cons_self), tld_ok g ags _ (fun y hy => h y (List.mem_cons_of_mem _ hy))]
    simp
def toldRow (bs : List Int) (ags : List Ag) (g : List (List V)) : List V := hdOf bs (g.headD []) ++ ags.map (fun x => (aggB g x).1)
theorem tell_ok (bs : List Int) (ags : List Ag) : ∀ (gs : List (List (List V))) (out : List (List V)), (∀ g ∈ gs, ∀ x ∈ ags, (aggB g x).2 = 0) → tellAll bs ags gs out = (0, out ++ gs.map (toldRow bs ags))
  | [], out, _ => by simp [tellAll]
  | g :: gs, out, h => by
    unfold tellAll
    rw [tld_ok g ags _ (h g List.mem_cons_self), if_pos rfl, tell_ok bs ags gs _ (fun y hy => h y (List.mem_cons_of_mem _ hy))]
    simp [toldRow]
/-- Runs of rows that stand for others: where the others stand alike, and only there. -/
theorem runs_mapT {ks : List Ky} (f : List (List V) → List V) : ∀ (Gs : List (List (List (List V)))), (∀ G ∈ Gs, G ≠ []) → (∀ G ∈ Gs, ∀ a ∈ G, ∀ b ∈ G, eqK ks (f a) (f b) = true) →
    (∀ i (h : i + 1 < Gs.length), ∀ a ∈ Gs[i], ∀ b ∈ Gs[i + 1], eqK ks (f a) (f b) = false) → runs ks (Gs.flatten.map f) = Gs.map (fun G => G.map f)
  | [], _, _, _ => rfl
  | G :: Gs, h0, h1, h2 => by
    have ih := runs_mapT (ks := ks) f Gs (fun X hX => h0 X (List.mem_cons_of_mem _ hX)) (fun X hX => h1 X (List.mem_cons_of_mem _ hX)) (fun i h => h2 (i + 1) (by simpa using h))
    have hone : ∀ (r : List V) (l : List (List V)), (∀ x ∈ l, eqK ks r x = true) → runs ks (r :: l) = [r :: l] := fun r l h => by
      have ht : l.takeWhile (eqK ks r) = l := by
        induction l with
        | nil => rfl
        | cons a l ihl => rw [List.takeWhile_cons, if_pos (h a List.mem_cons_self), ihl (fun x hx => h x (List.mem_cons_of_mem _ hx))]
      have hd := List.takeWhile_append_dropWhile (p := eqK ks r) (l := l)
      have hd2 : l.dropWhile (eqK ks r) = [] := by
        have := congrArg List.length hd
        rw [List.length_append, ht] at this
        exact List.eq_nil_of_length_eq_zero (by omega)
      rw [runs_cons, ht, hd2, runs_nil]
    rw [List.flatten_cons, List.map_append, runs_app, ih, List.map_cons]
    · cases G with
      | nil => exact absurd rfl (h0 [] List.mem_cons_self)
      | cons a G =>
        rw [List.map_cons, hone _ _ (fun x hx => by
          obtain ⟨b, hb, rfl⟩ := List.mem_map.1 hx
          exact h1 _ List.mem_cons_self a List.mem_cons_self b (List.mem_cons_of_mem _ hb))]
        rfl
    · intro x hx y hy
      obtain ⟨a, ha, rfl⟩ := List.mem_map.1 hx
      cases Gs with
      | nil => simp at hy
      | cons H Hs =>
        cases H with
        | nil => exact absurd rfl (h0 [] (List.mem_cons_of_mem _ List.mem_cons_self))
        | cons b H =>
          simp at hy
          subst hy
          exact h2 0 (by simp) a ha b List.mem_cons_self
/-- What is known of numbers. -/
theorem kn_nums (zs : List Int) (hl : zs.length ≤ 1000000) (hz : ∀ z ∈ zs, inI z) : KnInv ((zs.map numG).foldl Kn.add Kn.zero) zs.length zs.length zs.sum := by
  have hK := kn_inv (zs.map numG) (by rw [List.length_map]; exact hl) (fun v hv => by
    obtain ⟨z, hzm, rfl⟩ := List.mem_map.1 hv
    exact hz z hzm)
  have hf : (zs.map numG).filter (fun v => decide (v.k ≠ 0)) = zs.map numG := List.filter_eq_self.2 (fun v hv => by
    obtain ⟨z, _, rfl⟩ := List.mem_map.1 hv
    rfl)
  have hsum : sumV (zs.map numG) = zs.sum := by
    unfold sumV
    rw [hf, List.map_map]
    congr 1
    exact List.map_id zs
  have hcnt : cntV (zs.map numG) = zs.length := by
    unfold cntV
    rw [hf, List.length_map]
  rwa [hsum, hcnt, List.length_map] at hK
theorem agg_sum (g : List (List V)) (c : Int) (zs : List Int) (hv : g.map (fun r => atV r c) = zs.map numG) (h0 : zs ≠ []) (hl : zs.length ≤ 1000000) (hz : ∀ z ∈ zs, inI z) (hs : inI zs.sum) : aggB g ⟨3, c⟩ = (numG zs.sum, 0) := by
  have hK := kn_nums zs hl hz
  have hpos : 0 < zs.length := List.length_pos_iff.2 h0
  have hn := nar_iff _ _ _ hK.l0 hK.l1 hK.sum
  have e : g.map (vOf ⟨3, c⟩) = zs.map numG := hv
  unfold aggB knOf
  rw [e]
  generalize (zs.map numG).foldl Kn.add Kn.zero = K at hK hn
  unfold Kn.told
  rw [if_neg (show ¬ ((3 : Int) = 1) by decide), if_neg (show ¬ ((3 : Int) = 2) by decide), if_neg (show ¬ ((3 : Int) = 4) by decide), if_neg (show ¬ ((3 : Int) = 5) by decide), if_neg (by rw [hK.some]; omega), if_pos (hn.1.2 hs), hn.2 hs]
theorem agg_some (g : List (List V)) (c : Int) (zs : List Int) (hv : g.map (fun r => atV r c) = zs.map numG) (hl : zs.length ≤ 1000000) (hz : ∀ z ∈ zs, inI z) : aggB g ⟨2, c⟩ = (numG zs.length, 0) := by
  have hK := kn_nums zs hl hz
  have e : g.map (vOf ⟨2, c⟩) = zs.map numG := hv
  unfold aggB knOf
  rw [e]
  unfold Kn.told
  rw [if_neg (show ¬ ((2 : Int) = 1) by decide), if_pos rfl, hK.some]
theorem agg_count (g : List (List V)) (c : Int) (hl : g.length ≤ 1000000) : aggB g ⟨1, c⟩ = (numG g.length, 0) := by
  have hK := kn_inv (g.map (vOf ⟨1, c⟩)) (by rw [List.length_map]; exact hl) (fun v hv => by
    obtain ⟨r, _, rfl⟩ := List.mem_map.1 hv
    show inI (V.zero).n
    unfold inI V.zero
    decide)
  unfold aggB knOf
  unfold Kn.told
  rw [if_pos rfl, hK.rows, List.length_map]
theorem cmpV_num (a b : Int) : cmpV (numG a) (numG b) ≤ 0 ↔ a ≤ b := by
  have hs : cmpS (⟨#[]⟩ : ByteArray) ⟨#[]⟩ = 0 := by first | decide | decide +kernel | rfl
  unfold cmpV numG
  rw [hs]
  unfold or3 cmpI
  simp only
  split <;> split <;> omega
theorem agg_ends (g : List (List V)) (c : Int) (zs : List Int) (hv : g.map (fun r => atV r c) = zs.map numG) (h0 : zs ≠ []) :
    (∃ z ∈ zs, (∀ y ∈ zs, z ≤ y) ∧ aggB g ⟨4, c⟩ = (numG z, 0)) ∧ (∃ z ∈ zs, (∀ y ∈ zs, y ≤ z) ∧ aggB g ⟨5, c⟩ = (numG z, 0)) := by
  have hm := (kn_min (zs.map numG)).m
  have hf : nnV (zs.map numG) = zs.map numG := List.filter_eq_self.2 (fun v hv => by
    obtain ⟨z, _, rfl⟩ := List.mem_map.1 hv
    rfl)
  have e4 : g.map (vOf ⟨4, c⟩) = zs.map numG := hv
  have e5 : g.map (vOf ⟨5, c⟩) = zs.map numG := hv
  obtain ⟨hme, hmm, hmle⟩ := hm
  rw [hf] at hmm hmle
  obtain ⟨m1, m2⟩ := hmm (fun e => h0 (List.map_eq_nil_iff.1 e))
  obtain ⟨z, hz, hz2⟩ := List.mem_map.1 m1
  obtain ⟨y, hy, hy2⟩ := List.mem_map.1 m2
  refine ⟨⟨z, hz, fun u hu => ?_, ?_⟩, ⟨y, hy, fun u hu => ?_, ?_⟩⟩
  · have := (hmle (numG u) (List.mem_map_of_mem hu)).1
    rw [← hz2] at this
    exact (cmpV_num _ _).1 this
  · unfold aggB knOf
    rw [e4]
    unfold Kn.told
    rw [if_neg (show ¬ ((4 : Int) = 1) by decide), if_neg (show ¬ ((4 : Int) = 2) by decide), if_pos rfl, hz2]
  · have := (hmle (numG u) (List.mem_map_of_mem hu)).2
    rw [← hy2] at this
    exact (cmpV_num _ _).1 this
  · unfold aggB knOf
    rw [e5]
    unfold Kn.told
    rw [if_neg (show ¬ ((5 : Int) = 1) by decide), if_neg (show ¬ ((5 : Int) = 2) by decide), if_neg (show ¬ ((5 : Int) = 4) by decide), if_pos rfl, hy2]
def five : List Ag := [⟨1, 0⟩, ⟨2, 2⟩, ⟨3, 2⟩, ⟨4, 2⟩, ⟨5, 2⟩]
def again : List Ag := [⟨3, 2⟩, ⟨3, 3⟩, ⟨3, 4⟩, ⟨4, 5⟩, ⟨5, 6⟩]
/-- The columns of a row that tells of a group by two columns. -/
theorem told_cols (g : List (List V)) : atV (toldRow [0, 1] five g) 0 = atV (g.headD []) 0 ∧ atV (toldRow [0, 1] five g) 2 = (aggB g ⟨1, 0⟩).1 ∧ atV (toldRow [0, 1] five g) 3 = (aggB g ⟨2, 2⟩).1 ∧
    atV (toldRow [0, 1] five g) 4 = (aggB g ⟨3, 2⟩).1 ∧ atV (toldRow [0, 1] five g) 5 = (aggB g ⟨4, 2⟩).1 ∧ atV (toldRow [0, 1] five g) 6 = (aggB g ⟨5, 2⟩).1 := ⟨rfl, rfl, rfl, rfl, rfl, rfl⟩
theorem sum_flatI : ∀ Z : List (List Int), Z.flatten.sum = (Z.map List.sum).sum
  | [] => rfl
  | z :: Z => by rw [List.flatten_cons, List.sum_append, sum_flatI Z, List.map_cons, List.sum_cons]
theorem len_flatI {α : Type} : ∀ Z : List (List α), (Z.flatten.length : Int) = (Z.map (fun z => (z.length : Int))).sum
  | [] => rfl
  | z :: Z => by rw [List.flatten_cons, List.length_append, Int.natCast_add, len_flatI Z, List.map_cons, List.sum_cons]
/-- What is told again of what was told of parts is what is told of the whole: integers. -/
theorem sum_bnd : ∀ zs : List Int, (∀ z ∈ zs, -2147483648 ≤ z ∧ z ≤ 2147483648) → -(2147483648 * (zs.length : Int)) ≤ zs.sum ∧ zs.sum ≤ 2147483648 * (zs.length : Int)
  | [], _ => by simp
  | z :: zs, h => by
    have h1 := h z List.mem_cons_self
    have h2 := sum_bnd zs (fun y hy => h y (List.mem_cons_of_mem _ hy))
    rw [List.sum_cons, List.length_cons]
    omega
def numsOf (g : List (List V)) : List Int := g.map (fun r => (atV r 2).n)
/-- What is told of a group of small numbers. -/
theorem agg_five (g : List (List V)) (hg : ∀ r ∈ g, atV r 2 = numG (atV r 2).n) (h0 : g ≠ []) (hl : g.length ≤ 60) (hb : ∀ z ∈ numsOf g, -2147483648 ≤ z ∧ z ≤ 2147483648) :
    ∃ lo hi, (lo ∈ numsOf g ∧ ∀ y ∈ numsOf g, lo ≤ y) ∧ (hi ∈ numsOf g ∧ ∀ y ∈ numsOf g, y ≤ hi) ∧
      five.map (aggB g) = [(numG g.length, 0), (numG g.length, 0), (numG (numsOf g).sum, 0), (numG lo, 0), (numG hi, 0)] := by
  have hv : g.map (fun r => atV r 2) = (numsOf g).map numG := by
    unfold numsOf
    rw [List.map_map]
    exact List.map_congr_left (fun r hr => hg r hr)
  have hz0 : numsOf g ≠ [] := fun e => h0 (List.map_eq_nil_iff.1 e)
  have hlen : (numsOf g).length = g.length := by unfold numsOf; rw [List.length_map]
  have hin : ∀ z ∈ numsOf g, inI z := fun z hz => by have := hb z hz; unfold inI; omega
  have hs := sum_bnd _ hb
  obtain ⟨⟨lo, h1, h2, h3⟩, hi, h4, h5, h6⟩ := agg_ends g 2 (numsOf g) hv hz0
  refine ⟨lo, hi, ⟨h1, h2⟩, ⟨h4, h5⟩, ?_⟩
  show [aggB g ⟨1, 0⟩, aggB g ⟨2, 2⟩, aggB g ⟨3, 2⟩, aggB g ⟨4, 2⟩, aggB g ⟨5, 2⟩] = _
  rw [agg_count g 0 (by omega), agg_some g 2 (numsOf g) hv (by omega) hin, agg_sum g 2 (numsOf g) hv hz0 (by omega) hin (by unfold inI; omega), h3, h6, hlen]
def leastOf (g : List (List V)) : Int := (aggB g ⟨4, 2⟩).1.n
def mostOf (g : List (List V)) : Int := (aggB g ⟨5, 2⟩).1.n
theorem agg_five2 (g : List (List V)) (hg : ∀ r ∈ g, atV r 2 = numG (atV r 2).n) (h0 : g ≠ []) (hl : g.length ≤ 60) (hb : ∀ z ∈ numsOf g, -2147483648 ≤ z ∧ z ≤ 2147483648) :
    (leastOf g ∈ numsOf g ∧ ∀ y ∈ numsOf g, leastOf g ≤ y) ∧ (mostOf g ∈ numsOf g ∧ ∀ y ∈ numsOf g, y ≤ mostOf g) ∧
      aggB g ⟨1, 0⟩ = (numG g.length, 0) ∧ aggB g ⟨2, 2⟩ = (numG g.length, 0) ∧ aggB g ⟨3, 2⟩ = (numG (numsOf g).sum, 0) ∧ aggB g ⟨4, 2⟩ = (numG (leastOf g), 0) ∧ aggB g ⟨5, 2⟩ = (numG (mostOf g), 0) := by
  obtain ⟨lo, hi, h1, h2, h3⟩ := agg_five g hg h0 hl hb
  simp only [five, List.map_cons, List.map_nil, List.cons.injEq, and_true] at h3
  obtain ⟨a, b, c, d, e⟩ := h3
  have hlo : leastOf g = lo := by unfold leastOf; rw [d]; rfl
  have hhi : mostOf g = hi := by unfold mostOf; rw [e]; rfl
  rw [hlo, hhi]
  exact ⟨h1, h2, a, b, c, d, e⟩
theorem numsOf_flat (Gs : List (List (List V))) : numsOf Gs.flatten = (Gs.map numsOf).flatten := by
  unfold numsOf
  rw [List.map_flatten]
theorem mapT_col (Gs : List (List (List V))) (T : List (List V) → List V) (c : Int) (f : List (List V) → Int) (h : ∀ g ∈ Gs, atV (T g) c = numG (f g)) : (Gs.map T).map (fun r => atV r c) = (Gs.map f).map numG := by
  rw [List.map_map, List.map_map]
  exact List.map_congr_left (fun g hg => h g hg)
theorem least_flatT {α : Type} {Gs : List α} {N : α → List Int} {f : α → Int} {a b : Int} (hf : ∀ g ∈ Gs, f g ∈ N g ∧ ∀ y ∈ N g, f g ≤ y) (ha : a ∈ (Gs.map N).flatten) (ha2 : ∀ y ∈ (Gs.map N).flatten, a ≤ y) (hb : b ∈ Gs.map f) (hb2 : ∀ y ∈ Gs.map f, b ≤ y) : a = b := by
  obtain ⟨z, hz, hza⟩ := List.mem_flatten.1 ha
  obtain ⟨g, hg, rfl⟩ := List.mem_map.1 hz
  obtain ⟨y, hy, rfl⟩ := List.mem_map.1 hb
  have h1 := ha2 _ (List.mem_flatten.2 ⟨N y, List.mem_map_of_mem hy, (hf y hy).1⟩)
  have h2 := hb2 _ (List.mem_map_of_mem hg)
  have h3 := (hf g hg).2 a hza
  omega
theorem most_flatT {α : Type} {Gs : List α} {N : α → List Int} {f : α → Int} {a b : Int} (hf : ∀ g ∈ Gs, f g ∈ N g ∧ ∀ y ∈ N g, y ≤ f g) (ha : a ∈ (Gs.map N).flatten) (ha2 : ∀ y ∈ (Gs.map N).flatten, y ≤ a) (hb : b ∈ Gs.map f) (hb2 : ∀ y ∈ Gs.map f, y ≤ b) : a = b := by
  obtain ⟨z, hz, hza⟩ := List.mem_flatten.1 ha
  obtain ⟨g, hg, rfl⟩ := List.mem_map.1 hz
  obtain ⟨y, hy, rfl⟩ := List.mem_map.1 hb
  have h1 := ha2 _ (List.mem_flatten.2 ⟨N y, List.mem_map_of_mem hy, (hf y hy).1⟩)
  have h2 := hb2 _ (List.mem_map_of_mem hg)
  have h3 := (hf g hg).2 a hza
  omega
theorem len_le_flat {α : Type} : ∀ Z : List (List α), (∀ z ∈ Z, z ≠ []) → Z.length ≤ Z.flatten.length
  | [], _ => Nat.le_refl _
  | z :: Z, h => by
    have h1 := List.length_pos_iff.2 (h z List.mem_cons_self)
    have h2 := len_le_flat Z (fun y hy => h y (List.mem_cons_of_mem _ hy))
    rw [List.flatten_cons, List.length_append, List.length_cons]
    omega
/-- What is told of the told rows of a group's parts is what is told of the group. -/
theorem told_again (Gs : List (List (List V))) (hG : Gs ≠ []) (h0 : ∀ g ∈ Gs, g ≠ []) (hg : ∀ g ∈ Gs, ∀ r ∈ g, atV r 2 = numG (atV r 2).n) (hl : Gs.flatten.length ≤ 60) (hb : ∀ g ∈ Gs, ∀ z ∈ numsOf g, -2147483648 ≤ z ∧ z ≤ 2147483648) :
    again.map (aggB (Gs.map (toldRow [0, 1] five))) = five.map (aggB Gs.flatten) := by
  have hlg : ∀ g ∈ Gs, g.length ≤ 60 := fun g h => Nat.le_trans (List.Sublist.length_le (List.sublist_flatten_of_mem h)) hl
  have K := fun g h => agg_five2 g (hg g h) (h0 g h) (hlg g h) (hb g h)
  have hF0 : Gs.flatten ≠ [] := fun e => by
    obtain ⟨g, hgm⟩ := List.exists_mem_of_ne_nil Gs hG
    obtain ⟨r, hr⟩ := List.exists_mem_of_ne_nil g (h0 g hgm)
    have : r ∈ Gs.flatten := List.mem_flatten.2 ⟨g, hgm, hr⟩
    rw [e] at this
    cases this
  have hbF : ∀ z ∈ numsOf Gs.flatten, -2147483648 ≤ z ∧ z ≤ 2147483648 := fun z hz => by
    rw [numsOf_flat] at hz
    obtain ⟨y, hy, hzy⟩ := List.mem_flatten.1 hz
    obtain ⟨g, hgm, rfl⟩ := List.mem_map.1 hy
    exact hb g hgm z hzy
  obtain ⟨f1, f2, f3, f4, f5, f6, f7⟩ := agg_five2 Gs.flatten (fun r hr => by obtain ⟨g, hgm, hr2⟩ := List.mem_flatten.1 hr; exact hg g hgm r hr2) hF0 hl hbF
  have hM0 : ∀ f : List (List V) → Int, Gs.map f ≠ [] := fun f e => hG (List.map_eq_nil_iff.1 e)
  have c2 := mapT_col Gs (toldRow [0, 1] five) 2 (fun g => (g.length : Int)) (fun g h => by rw [(told_cols g).2.1, (K g h).2.2.1])
  have c3 := mapT_col Gs (toldRow [0, 1] five) 3 (fun g => (g.length : Int)) (fun g h => by rw [(told_cols g).2.2.1, (K g h).2.2.2.1])
  have c4 := mapT_col Gs (toldRow [0, 1] five) 4 (fun g => (numsOf g).sum) (fun g h => by rw [(told_cols g).2.2.2.1, (K g h).2.2.2.2.1])
  have c5 := mapT_col Gs (toldRow [0, 1] five) 5 leastOf (fun g h => by rw [(told_cols g).2.2.2.2.1, (K g h).2.2.2.2.2.1])
  have c6 := mapT_col Gs (toldRow [0, 1] five) 6 mostOf (fun g h => by rw [(told_cols g).2.2.2.2.2, (K g h).2.2.2.2.2.2])
  have e1 : (Gs.map (fun g => (g.length : Int))).sum = (Gs.flatten.length : Int) := (len_flatI Gs).symm
  have e3 : (Gs.map (fun g => (numsOf g).sum)).sum = (numsOf Gs.flatten).sum := by
    rw [numsOf_flat, sum_flatI, List.map_map]
    rfl
  have hGl := Nat.le_trans (len_le_flat Gs h0) hl
  have hml : ∀ f : List (List V) → Int, (Gs.map f).length ≤ 1000000 := fun f => by rw [List.length_map]; omega
  have hsF := sum_bnd _ hbF
  have hlF : (numsOf Gs.flatten).length = Gs.flatten.length := by unfold numsOf; rw [List.length_map]
  have z1 : ∀ z ∈ Gs.map (fun g => (g.length : Int)), inI z := fun z hz => by
    obtain ⟨g, hgm, rfl⟩ := List.mem_map.1 hz
    have := hlg g hgm
    unfold inI
    omega
  have z3 : ∀ z ∈ Gs.map (fun g => (numsOf g).sum), inI z := fun z hz => by
    obtain ⟨g, hgm, rfl⟩ := List.mem_map.1 hz
    have h1 := hlg g hgm
    have h2 := sum_bnd _ (hb g hgm)
    have h3 : (numsOf g).length = g.length := by unfold numsOf; rw [List.length_map]
    unfold inI
    omega
  have s1 : inI (Gs.map (fun g => (g.length : Int))).sum := by rw [e1]; unfold inI; omega
  have s3 : inI (Gs.map (fun g => (numsOf g).sum)).sum := by rw [e3]; unfold inI; omega
  obtain ⟨⟨lo, l1, l2, l3⟩, _⟩ := agg_ends (Gs.map (toldRow [0, 1] five)) 5 _ c5 (hM0 _)
  obtain ⟨_, hi, m1, m2, m3⟩ := agg_ends (Gs.map (toldRow [0, 1] five)) 6 _ c6 (hM0 _)
  rw [numsOf_flat] at f1 f2
  have q1 := least_flatT (fun g h => (K g h).1) f1.1 f1.2 l1 l2
  have q2 := most_flatT (fun g h => (K g h).2.1) f2.1 f2.2 m1 m2
  show [aggB (Gs.map (toldRow [0, 1] five)) ⟨3, 2⟩, aggB (Gs.map (toldRow [0, 1] five)) ⟨3, 3⟩, aggB (Gs.map (toldRow [0, 1] five)) ⟨3, 4⟩, aggB (Gs.map (toldRow [0, 1] five)) ⟨4, 5⟩, aggB (Gs.map (toldRow [0, 1] five)) ⟨5, 6⟩] = [aggB Gs.flatten ⟨1, 0⟩, aggB Gs.flatten ⟨2, 2⟩, aggB Gs.flatten ⟨3, 2⟩, aggB Gs.flatten ⟨4, 2⟩, aggB Gs.flatten ⟨5, 2⟩]
  rw [agg_sum _ 2 _ c2 (hM0 _) (hml _) z1 s1, agg_sum _ 3 _ c3 (hM0 _) (hml _) z1 s1, agg_sum _ 4 _ c4 (hM0 _) (hml _) z3 s3, l3, m3, f3, f4, f5, f6, f7, e1, e3, q1, q2]
/-- The first rows of runs are among the rows, in their order. -/
theorem runs_heads (ks : List Ky) (l : List (List V)) : List.Sublist ((runs ks l).map (·.headD [])) l := by
  refine runs_ind (ks := ks) (P := fun l => List.Sublist ((runs ks l).map (·.headD [])) l) (List.Sublist.refl _) (fun r l ih => ?_) l
  rw [runs_cons, List.map_cons]
  exact List.Sublist.cons_cons _ (ih.trans (List.dropWhile_sublist _))
/-- All of a run stand alike with its first. -/
theorem runs_alike (ks : List Ky) (l : List (List V)) : ∀ g ∈ runs ks l, ∀ x ∈ g, eqK ks (g.headD []) x = true := by
  refine runs_ind (ks := ks) (P := fun l => ∀ g ∈ runs ks l, ∀ x ∈ g, eqK ks (g.headD []) x = true) (fun g hg => by cases hg) (fun r l ih => ?_) l
  rw [runs_cons]
  intro g hg x hx
  rcases List.mem_cons.1 hg with rfl | hg
  · rcases List.mem_cons.1 hx with rfl | hx
    · show eqK ks x x = true
      unfold eqK
      rw [cmpR_refl]
      rfl
    · exact List.all_eq_true.1 List.all_takeWhile x hx
  · exact ih g hg x hx
theorem eqK_symm (ks : List Ky) (a b : List V) (h : eqK ks a b = true) : eqK ks b a = true := by
  rw [← eqK_tr ks a b a h]
  unfold eqK
  rw [cmpR_refl]
  rfl
theorem head_mem {α : Type} {g : List α} {d : α} (h : g ≠ []) : g.headD d ∈ g := by
  cases g with
  | nil => exact absurd rfl h
  | cons a g => exact List.mem_cons_self
/-- A row of three numbers, the third a small one. -/
def tri (r : List V) : Prop := ∃ a b c : Int, r = [numG a, numG b, numG c] ∧ inI a ∧ inI b ∧ -2147483648 ≤ c ∧ c ≤ 2147483648
theorem tri_in {r : List V} (h : tri r) : ∀ v ∈ r, inI v.n := by
  obtain ⟨a, b, c, rfl, ha, hb, h1, h2⟩ := h
  intro v hv
  simp only [List.mem_cons, List.not_mem_nil, or_false] at hv
  rcases hv with rfl | rfl | rfl
  · exact ha
  · exact hb
  · show inI c
    unfold inI
    omega
theorem tri_two {r : List V} (h : tri r) : atV r 2 = numG (atV r 2).n := by
  obtain ⟨a, b, c, rfl, _⟩ := h
  rfl
theorem tri_bnd {r : List V} (h : tri r) : -2147483648 ≤ (atV r 2).n ∧ (atV r 2).n ≤ 2147483648 := by
  obtain ⟨a, b, c, rfl, _, _, h1, h2⟩ := h
  exact ⟨h1, h2⟩
theorem fitV_num (n : Int) : fitV 2 (numG n) = true := by
  have : rightB (numG n) = true := decide_eq_true (.inr (.inr (.inl ⟨rfl, by unfold numG; exact emp_toList⟩)))
  unfold fitV
  rw [this]
  rfl
theorem tri_fit {r : List V} (h : tri r) : fitL [2, 2, 2] r = true := by
  obtain ⟨a, b, c, rfl, _⟩ := h
  simp only [fitL, fitV_num, Bool.and_self]
/-- What five tells of rows of numbers goes well. -/
theorem tri_five {g : List (List V)} (h : ∀ r ∈ g, tri r) (h0 : g ≠ []) (hl : g.length ≤ 60) :
    (leastOf g ∈ numsOf g ∧ ∀ y ∈ numsOf g, leastOf g ≤ y) ∧ (mostOf g ∈ numsOf g ∧ ∀ y ∈ numsOf g, y ≤ mostOf g) ∧
      aggB g ⟨1, 0⟩ = (numG g.length, 0) ∧ aggB g ⟨2, 2⟩ = (numG g.length, 0) ∧ aggB g ⟨3, 2⟩ = (numG (numsOf g).sum, 0) ∧ aggB g ⟨4, 2⟩ = (numG (leastOf g), 0) ∧ aggB g ⟨5, 2⟩ = (numG (mostOf g), 0) :=
  agg_five2 g (fun r hr => tri_two (h r hr)) h0 hl (fun z hz => by
    obtain ⟨r, hr, rfl⟩ := List.mem_map.1 hz
    exact tri_bnd (h r hr))
theorem five_ok {g : List (List V)} (h : ∀ r ∈ g, tri r) (h0 : g ≠ []) (hl : g.length ≤ 60) : ∀ x ∈ five, (aggB g x).2 = 0 := by
  obtain ⟨_, _, e1, e2, e3, e4, e5⟩ := tri_five h h0 hl
  intro x hx
  simp only [five, List.mem_cons, List.not_mem_nil, or_false] at hx
  rcases hx with rfl | rfl | rfl | rfl | rfl
  · rw [e1]
  · rw [e2]
  · rw [e3]
  · rw [e4]
  · rw [e5]
theorem told_fit {g : List (List V)} (h : ∀ r ∈ g, tri r) (h0 : g ≠ []) (hl : g.length ≤ 60) : fitL [2, 2, 2, 2, 2, 2, 2] (toldRow [0, 1] five g) = true := by
  obtain ⟨_, _, e1, e2, e3, e4, e5⟩ := tri_five h h0 hl
  obtain ⟨a, b, c, hr, _⟩ := h _ (head_mem (d := []) h0)
  have e : toldRow [0, 1] five g = [numG a, numG b, numG g.length, numG g.length, numG (numsOf g).sum, numG (leastOf g), numG (mostOf g)] := by
    show [atV (g.headD []) 0, atV (g.headD []) 1, (aggB g ⟨1, 0⟩).1, (aggB g ⟨2, 2⟩).1, (aggB g ⟨3, 2⟩).1, (aggB g ⟨4, 2⟩).1, (aggB g ⟨5, 2⟩).1] = _
    rw [e1, e2, e3, e4, e5, hr]
    rfl
  rw [e]
  simp only [fitL, fitV_num, Bool.and_self]
theorem eqK_told (a b : List (List V)) : eqK (gkeys [0]) (toldRow [0, 1] five a) (toldRow [0, 1] five b) = eqK (gkeys [0]) (a.headD []) (b.headD []) := rfl
theorem cmpR_told (a b : List (List V)) : cmpR (toldRow [0, 1] five a) (toldRow [0, 1] five b) (gkeys [0]) = cmpR (a.headD []) (b.headD []) (gkeys [0]) := rfl
theorem pend_by (b : Int) (bs : List Int) (l : List (List V)) : pend (b :: bs) l true = runs (gkeys (b :: bs)) l := if_neg (fun h => by cases h.1.1)
/-- What is told by two columns, told again by one, is what is told by one. -/
theorem grp_twice (R : List (List V)) (hR : ∀ r ∈ R, tri r) (hl : R.length ≤ 60) :
    ∃ F C, grpB [2, 2, 2] R [0, 1] five = (0, F) ∧ grpB [2, 2, 2] R [0] five = (0, C) ∧ grpB [2, 2, 2, 2, 2, 2, 2] F [0] again = (0, C) ∧ F.length ≤ 60 ∧ ∀ r ∈ F, r.length = 7 := by
  have p : (sortL (gkeys [0, 1]) R).Perm R := sortB_perm _ _
  have hsc := sort_cols 0 [1] R
  have hasc : Asc (fun a b => cmpR a b (gkeys [0])) (sortL (gkeys [0, 1]) R) := List.Pairwise.imp (fun h => cmpR_le1 0 [1] _ _ h) (sortB_asc (fun a b => cmpR a b (gkeys [0, 1])) (fun a b => cmpR_neg a b _) (ltrT _) R)
  have hfit : R.all (fitL [2, 2, 2]) = true := List.all_eq_true.2 (fun r hr => tri_fit (hR r hr))
  have hc := grp_perm [2, 2, 2] p.symm [0] five (fun r hr => tri_in (hR r hr)) (by omega)
  have hfit2 : (sortL (gkeys [0, 1]) R).all (fitL [2, 2, 2]) = true := List.all_eq_true.2 (fun r hr => tri_fit (hR r (p.mem_iff.1 hr)))
  have h1 : grpB [2, 2, 2] R [0, 1] five = tellAll [0, 1] five (runs (gkeys [0, 1]) (sortL (gkeys [0, 1]) R)) [] := by
    unfold grpB
    rw [if_pos (show kindsE [2, 2, 2] [0, 1] five = 0 by decide), if_pos hfit, pend_by]
  have h2 : grpB [2, 2, 2] R [0] five = tellAll [0] five (runs (gkeys [0]) (sortL (gkeys [0, 1]) R)) [] := by
    rw [hc]
    unfold grpB
    rw [if_pos (show kindsE [2, 2, 2] [0] five = 0 by decide), if_pos hfit2, pend_by, hsc]
  have hS : ∀ r ∈ sortL (gkeys [0, 1]) R, tri r := fun r hr => hR r (p.mem_iff.1 hr)
  have hSl : (sortL (gkeys [0, 1]) R).length ≤ 60 := by rw [p.length_eq]; exact hl
  generalize sortL (gkeys [0, 1]) R = S at h1 h2 hasc hS hSl
  have hmem : ∀ (ks : List Ky), ∀ g ∈ runs ks S, (∀ r ∈ g, tri r) ∧ g ≠ [] ∧ g.length ≤ 60 := fun ks g hg => by
    have hsub : List.Sublist g S := by
      have := List.sublist_flatten_of_mem hg
      rwa [runs_flat] at this
    exact ⟨fun r hr => hS r (hsub.subset hr), runs_ne ks S g hg, Nat.le_trans hsub.length_le hSl⟩
  have t1 := tell_ok [0, 1] five (runs (gkeys [0, 1]) S) [] (fun g hg => five_ok (hmem _ g hg).1 (hmem _ g hg).2.1 (hmem _ g hg).2.2)
  have t2 := tell_ok [0] five (runs (gkeys [0]) S) [] (fun g hg => five_ok (hmem _ g hg).1 (hmem _ g hg).2.1 (hmem _ g hg).2.2)
  rw [List.nil_append] at t1 t2
  refine ⟨_, _, h1.trans t1, h2.trans t2, ?_, by
    have := len_le_flat _ (runs_ne (gkeys [0, 1]) S)
    rw [runs_flat] at this
    rw [List.length_map]
    omega, fun r hr => by
    obtain ⟨g, _, rfl⟩ := List.mem_map.1 hr
    rfl⟩
  have hF3 : ((runs (gkeys [0, 1]) S).map (toldRow [0, 1] five)).all (fitL [2, 2, 2, 2, 2, 2, 2]) = true := List.all_eq_true.2 (fun r hr => by
    obtain ⟨g, hg, rfl⟩ := List.mem_map.1 hr
    exact told_fit (hmem _ g hg).1 (hmem _ g hg).2.1 (hmem _ g hg).2.2)
  have hFa : Asc (fun a b => cmpR a b (gkeys [0])) ((runs (gkeys [0, 1]) S).map (toldRow [0, 1] five)) := by
    have h3 : List.Pairwise (fun a b => cmpR a b (gkeys [0]) ≤ 0) ((runs (gkeys [0, 1]) S).map (·.headD [])) := List.Pairwise.sublist (runs_heads _ _) hasc
    exact List.pairwise_map.2 (List.pairwise_map.1 h3)
  have hFs : sortL (gkeys [0]) ((runs (gkeys [0, 1]) S).map (toldRow [0, 1] five)) = (runs (gkeys [0, 1]) S).map (toldRow [0, 1] five) :=
    sortB_of_asc (fun a b => cmpR a b (gkeys [0])) (fun a b => cmpR_neg a b _) (ltrT _) _ hFa
  have hsplit : runs (gkeys [0, 1]) S = ((runs (gkeys [0]) S).map (runs (gkeys [0, 1]))).flatten := runs_cols 0 [1] S
  have hin : ∀ g ∈ runs (gkeys [0]) S, ∀ a ∈ runs (gkeys [0, 1]) g, a.headD [] ∈ g := fun g hg a ha => by
    have hsub : List.Sublist a g := by
      have := List.sublist_flatten_of_mem ha
      rwa [runs_flat] at this
    exact hsub.subset (head_mem (runs_ne _ _ a ha))
  have hruns : runs (gkeys [0]) ((runs (gkeys [0, 1]) S).map (toldRow [0, 1] five)) = ((runs (gkeys [0]) S).map (runs (gkeys [0, 1]))).map (fun G => G.map (toldRow [0, 1] five)) := by
    rw [hsplit]
    refine runs_mapT (toldRow [0, 1] five) _ (fun G hG => ?_) (fun G hG a ha b hb => ?_) (fun i hi a ha b hb => ?_)
    · obtain ⟨g, hg, rfl⟩ := List.mem_map.1 hG
      intro e
      have := runs_flat (gkeys [0, 1]) g
      rw [e] at this
      exact runs_ne _ _ g hg this.symm
    · obtain ⟨g, hg, rfl⟩ := List.mem_map.1 hG
      rw [eqK_told]
      have x1 := runs_alike _ _ g hg _ (hin g hg a ha)
      have x2 := runs_alike _ _ g hg _ (hin g hg b hb)
      rw [← eqK_tr _ _ _ _ x1]
      exact x2
    · have hi2 : i + 1 < (runs (gkeys [0]) S).length := by simpa using hi
      rw [List.getElem_map] at ha hb
      have m1 := List.getElem_mem (l := runs (gkeys [0]) S) (n := i) (by omega)
      have m2 := List.getElem_mem (l := runs (gkeys [0]) S) (n := i + 1) hi2
      have x1 := runs_alike _ _ _ m1 _ (hin _ m1 a ha)
      have x2 := runs_alike _ _ _ m2 _ (hin _ m2 b hb)
      have x3 := runs_adj (gkeys [0]) S i hi2
      rw [eqK_told, ← eqK_tr _ _ _ _ x1]
      cases x4 : eqK (gkeys [0]) ((runs (gkeys [0]) S)[i].headD []) (b.headD []) with
      | false => rfl
      | true =>
        exfalso
        have x5 := eqK_tr _ _ _ ((runs (gkeys [0]) S)[i].headD []) (eqK_symm _ _ _ x2)
        rw [eqK_symm _ _ _ x4] at x5
        rw [eqK_symm _ _ _ x5.symm] at x3
        cases x3
  have hag : ∀ g ∈ runs (gkeys [0]) S, again.map (aggB ((runs (gkeys [0, 1]) g).map (toldRow [0, 1] five))) = five.map (aggB g) := fun g hg => by
    obtain ⟨k1, k2, k3⟩ := hmem _ g hg
    have hsub : ∀ a ∈ runs (gkeys [0, 1]) g, List.Sublist a g := fun a ha => by
      have := List.sublist_flatten_of_mem ha
      rwa [runs_flat] at this
    have := told_again (runs (gkeys [0, 1]) g) (fun e => by
      have := runs_flat (gkeys [0, 1]) g
      rw [e] at this
      exact k2 this.symm) (runs_ne _ _) (fun a ha r hr => tri_two (k1 r ((hsub a ha).subset hr))) (by rw [runs_flat]; exact k3) (fun a ha z hz => by
      obtain ⟨r, hr, rfl⟩ := List.mem_map.1 hz
      exact tri_bnd (k1 r ((hsub a ha).subset hr)))
    rw [runs_flat] at this
    exact this
  unfold grpB
  rw [if_pos (show kindsE [2, 2, 2, 2, 2, 2, 2] [0] again = 0 by decide), if_pos hF3, pend_by, hFs, hruns, List.map_map, tell_ok [0] again _ [] (fun G hG x hx => by
    obtain ⟨g, hg, rfl⟩ := List.mem_map.1 hG
    have h5 : aggB ((runs (gkeys [0, 1]) g).map (toldRow [0, 1] five)) x ∈ again.map (aggB ((runs (gkeys [0, 1]) g).map (toldRow [0, 1] five))) := List.mem_map_of_mem hx
    rw [hag g hg] at h5
    obtain ⟨y, hy, h6⟩ := List.mem_map.1 h5
    show (aggB ((runs (gkeys [0, 1]) g).map (toldRow [0, 1] five)) x).2 = 0
    rw [← h6]
    exact five_ok (hmem _ g hg).1 (hmem _ g hg).2.1 (hmem _ g hg).2.2 y hy), List.nil_append, List.map_map]
  congr 1
  refine List.map_congr_left (fun g hg => ?_)
  show toldRow [0] again ((runs (gkeys [0, 1]) g).map (toldRow [0, 1] five)) = toldRow [0] five g
  have h7 : again.map (fun x => (aggB ((runs (gkeys [0, 1]) g).map (toldRow [0, 1] five)) x).1) = five.map (fun x => (aggB g x).1) := by
    have := congrArg (List.map Prod.fst) (hag g hg)
    rw [List.map_map, List.map_map] at this
    exact this
  unfold toldRow at h7 ⊢
  rw [h7]
  congr 1
  obtain ⟨k1, k2, k3⟩ := hmem _ g hg
  have h8 : 0 < (runs (gkeys [0, 1]) g).length := List.length_pos_iff.2 (fun e => by
    have := runs_flat (gkeys [0, 1]) g
    rw [e] at this
    exact k2 this.symm)
  have h9 := (runs_head (gkeys [0, 1]) g h8).1
  generalize runs (gkeys [0, 1]) g = Q at h8 h9
  cases Q with
  | nil => cases h8
  | cons q Q =>
    simp only [List.getElem_cons_zero] at h9
    rw [← h9]
    rfl
end Go.Proofs.Ytbiniecjenencaa
