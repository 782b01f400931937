/- What is known of values: plain laws. -/
import Derived.Test.YtdpmaocbfmgmlaaLess
set_option linter.unusedVariables false
set_option linter.unusedSimpArgs false
namespace Go.Proofs.Ytdpmaocbfmgmlaa
open Go.RowKit
theorem eqV_refl (a : V) : eqV a a = true := eqV_iff.2 rfl
/-- What is known of values. -/
structure Zn where
  lo : V
  hi : V
  nulls : Int
  many : Int
def Zn.zero : Zn := ⟨V.zero, V.zero, 0, 0⟩
def chooseV (a b : V) (way : Int) : V := if a.k = 0 ∧ b.k = 0 then V.zero else if a.k = 0 then b else if b.k = 0 ∨ cmpV a b = way then a else b
def mergeZ (a b : Zn) : Zn := ⟨chooseV a.lo b.lo (-1), chooseV a.hi b.hi 1, wrap64 (a.nulls + b.nulls), wrap64 (a.many + b.many)⟩
def oneZ (v : V) : Zn := if v.k = 0 then ⟨V.zero, V.zero, 1, 1⟩ else ⟨v, v, 0, 1⟩
def ofZ (l : List V) : Zn := l.foldl (fun z v => mergeZ z (oneZ v)) Zn.zero
/-- Nothing is the zero value. -/
def Nrm (a : V) : Prop := a.k = 0 → a = V.zero
theorem Nrm.zero : Nrm V.zero := fun _ => rfl
theorem choose_nrm (a b : V) (way : Int) : Nrm (chooseV a b way) := by
  unfold chooseV
  split
  · exact Nrm.zero
  · rename_i h
    split
    · rename_i h2; intro h3; exact absurd ⟨h2, h3⟩ h
    · rename_i h2
      split
      · intro h3; exact absurd h3 h2
      · rename_i h4; intro h5; exact absurd (.inl h5) h4
theorem choose_zero_l {a : V} (h : Nrm a) (way : Int) : chooseV V.zero a way = a := by
  unfold chooseV
  by_cases e : a.k = 0
  · rw [if_pos ⟨rfl, e⟩, h e]
  · rw [if_neg (fun x => e x.2), if_pos (show V.zero.k = 0 from rfl)]
theorem choose_zero_r {a : V} (h : Nrm a) (way : Int) : chooseV a V.zero way = a := by
  unfold chooseV
  by_cases e : a.k = 0
  · rw [if_pos ⟨e, rfl⟩, h e]
  · rw [if_neg (fun x => e x.1), if_neg e, if_pos (.inl rfl)]
theorem choose_some {a b : V} (ha : a.k ≠ 0) (hb : b.k ≠ 0) (way : Int) : chooseV a b way = if cmpV a b = way then a else b := by
  unfold chooseV
  rw [if_neg (fun x => ha x.1), if_neg ha]
  by_cases h : cmpV a b = way
  · rw [if_pos (.inr h), if_pos h]
  · rw [if_neg (fun x => x.elim hb h), if_neg h]
theorem choose_comm {a b : V} (ha : Nrm a) (hb : Nrm b) (way : Int) (hw : way = -1 ∨ way = 1) : chooseV a b way = chooseV b a way := by
  by_cases ea : a.k = 0
  · rw [ha ea, choose_zero_l hb, choose_zero_r hb]
  · by_cases eb : b.k = 0
    · rw [hb eb, choose_zero_l ha, choose_zero_r ha]
    · rw [choose_some ea eb, choose_some eb ea, cmpV_neg a b]
      rcases cmpV_range a b with h | h | h
      · rw [h]; rcases hw with rfl | rfl <;> simp
      · rw [cmpV_zero.1 h]; simp
      · rw [h]; rcases hw with rfl | rfl <;> simp
theorem choose_assoc {a b c : V} (ha : Nrm a) (hb : Nrm b) (hc : Nrm c) (way : Int) (hw : way = -1 ∨ way = 1) : chooseV (chooseV a b way) c way = chooseV a (chooseV b c way) way := by
  by_cases ea : a.k = 0
  · rw [ha ea, choose_zero_l hb, choose_zero_l (choose_nrm _ _ _)]
  · by_cases eb : b.k = 0
    · rw [hb eb, choose_zero_r ha, choose_zero_l hc]
    · by_cases ec : c.k = 0
      · rw [hc ec, choose_zero_r (choose_nrm _ _ _), choose_zero_r hb]
      · have h1 : (chooseV a b way).k ≠ 0 := by rw [choose_some ea eb]; split <;> assumption
        have h2 : (chooseV b c way).k ≠ 0 := by rw [choose_some eb ec]; split <;> assumption
        rw [choose_some h1 ec, choose_some ea h2, choose_some ea eb, choose_some eb ec]
        have t1 := cmpV_tri a b c
        have t2 := cmpV_tri c b a
        rw [cmpV_neg b c, cmpV_neg a b, cmpV_neg a c] at t2
        unfold Tri at t1 t2
        rcases cmpV_range a b with x | x | x <;> rcases cmpV_range b c with y | y | y <;> rcases cmpV_range a c with z | z | z <;> rw [x, y, z] at t1 t2 <;> rcases hw with rfl | rfl <;> (try (simp [x, y, z]; done)) <;> (try (exfalso; omega)) <;> (try (have e1 := cmpV_zero.1 x; subst e1)) <;> (try (have e2 := cmpV_zero.1 y; subst e2)) <;> (try (have e3 := cmpV_zero.1 z; subst e3)) <;> simp_all

theorem wrap_0 : wrap64 0 = 0 := by unfold wrap64; omega
theorem wrap_1 : wrap64 1 = 1 := by unfold wrap64; omega
theorem wrap_wrap (n : Int) : wrap64 (wrap64 n) = wrap64 n := by unfold wrap64; omega
theorem wrap_l (a b : Int) : wrap64 (wrap64 a + b) = wrap64 (a + b) := by unfold wrap64; omega
theorem wrap_r (a b : Int) : wrap64 (a + wrap64 b) = wrap64 (a + b) := by unfold wrap64; omega
/-- As it is made. -/
structure OkZ (z : Zn) : Prop where
  lo : Nrm z.lo
  hi : Nrm z.hi
  nulls : wrap64 z.nulls = z.nulls
  many : wrap64 z.many = z.many
theorem Zn.ext_ {a b : Zn} (h1 : a.lo = b.lo) (h2 : a.hi = b.hi) (h3 : a.nulls = b.nulls) (h4 : a.many = b.many) : a = b := by cases a; cases b; simp_all
theorem OkZ.zero : OkZ Zn.zero := ⟨Nrm.zero, Nrm.zero, wrap_0, wrap_0⟩
theorem OkZ.merge (a b : Zn) : OkZ (mergeZ a b) := ⟨choose_nrm _ _ _, choose_nrm _ _ _, wrap_wrap _, wrap_wrap _⟩
theorem OkZ.one (v : V) : OkZ (oneZ v) := by
  unfold oneZ
  split
  · exact ⟨Nrm.zero, Nrm.zero, wrap_1, wrap_1⟩
  · rename_i h; exact ⟨fun e => absurd e h, fun e => absurd e h, wrap_0, wrap_1⟩
theorem merge_zero_l {z : Zn} (h : OkZ z) : mergeZ Zn.zero z = z :=
  Zn.ext_ (choose_zero_l h.lo _) (choose_zero_l h.hi _) (by show wrap64 (0 + z.nulls) = _; rw [Int.zero_add]; exact h.nulls) (by show wrap64 (0 + z.many) = _; rw [Int.zero_add]; exact h.many)
theorem merge_zero_r {z : Zn} (h : OkZ z) : mergeZ z Zn.zero = z :=
  Zn.ext_ (choose_zero_r h.lo _) (choose_zero_r h.hi _) (by show wrap64 (z.nulls + 0) = _; rw [Int.add_zero]; exact h.nulls) (by show wrap64 (z.many + 0) = _; rw [Int.add_zero]; exact h.many)
theorem merge_comm {a b : Zn} (ha : OkZ a) (hb : OkZ b) : mergeZ a b = mergeZ b a :=
  Zn.ext_ (choose_comm ha.lo hb.lo _ (.inl rfl)) (choose_comm ha.hi hb.hi _ (.inr rfl)) (by show wrap64 _ = wrap64 _; rw [Int.add_comm]) (by show wrap64 _ = wrap64 _; rw [Int.add_comm])
theorem merge_assoc {a b c : Zn} (ha : OkZ a) (hb : OkZ b) (hc : OkZ c) : mergeZ (mergeZ a b) c = mergeZ a (mergeZ b c) :=
  Zn.ext_ (choose_assoc ha.lo hb.lo hc.lo _ (.inl rfl)) (choose_assoc ha.hi hb.hi hc.hi _ (.inr rfl)) (by show wrap64 (wrap64 (_ + _) + _) = wrap64 (_ + wrap64 (_ + _)); rw [wrap_l, wrap_r, Int.add_assoc]) (by show wrap64 (wrap64 (_ + _) + _) = wrap64 (_ + wrap64 (_ + _)); rw [wrap_l, wrap_r, Int.add_assoc])
def stepZ (z : Zn) (v : V) : Zn := mergeZ z (oneZ v)
theorem ofZ_def (l : List V) : ofZ l = l.foldl stepZ Zn.zero := rfl
theorem fold_merge (y : List V) : ∀ z, OkZ z → y.foldl stepZ z = mergeZ z (ofZ y) := by
  induction y with
  | nil => intro z h; exact (merge_zero_r h).symm
  | cons v y ih =>
    intro z h
    rw [ofZ_def, List.foldl_cons, List.foldl_cons, ih (stepZ z v) (OkZ.merge _ _), ih (stepZ Zn.zero v) (OkZ.merge _ _)]
    unfold stepZ
    have ho : OkZ (ofZ y) := by
      rcases List.eq_nil_or_concat y with e | ⟨y', b, e⟩
      · rw [e]; exact OkZ.zero
      · rw [e, List.concat_eq_append, ofZ_def, List.foldl_append]; exact OkZ.merge _ _
    rw [merge_zero_l (OkZ.one v), merge_assoc h (OkZ.one v) ho]
theorem OkZ.of (y : List V) : OkZ (ofZ y) := by
  rcases List.eq_nil_or_concat y with e | ⟨y', b, e⟩
  · rw [e]; exact OkZ.zero
  · rw [e, List.concat_eq_append, ofZ_def, List.foldl_append]; exact OkZ.merge _ _
theorem ofZ_append (x y : List V) : ofZ (x ++ y) = mergeZ (ofZ x) (ofZ y) := by
  rw [ofZ_def, List.foldl_append, ← ofZ_def x, fold_merge y _ (OkZ.of x)]
theorem ofZ_snoc (x : List V) (v : V) : ofZ (x ++ [v]) = mergeZ (ofZ x) (oneZ v) := by
  rw [ofZ_def, List.foldl_append]; rfl
/-- What is known holds. -/
structure Knows (z : Zn) (l : List V) : Prop where
  nulls : z.nulls = ((l.filter fun v => decide (v.k = 0)).length : Nat)
  many : z.many = (l.length : Nat)
  lo : ∀ v, v ∈ l → v.k ≠ 0 → z.lo.k ≠ 0 ∧ cmpV z.lo v ≤ 0
  hi : ∀ v, v ∈ l → v.k ≠ 0 → z.hi.k ≠ 0 ∧ cmpV v z.hi ≤ 0
theorem cmpV_refl (a : V) : cmpV a a = 0 := cmpV_zero.2 rfl
theorem choose_lo (a b : V) (ha : b.k ≠ 0) : (chooseV a b (-1)).k ≠ 0 ∧ cmpV (chooseV a b (-1)) b ≤ 0 ∧ (a.k ≠ 0 → cmpV (chooseV a b (-1)) a ≤ 0) := by
  by_cases ea : a.k = 0
  · have : chooseV a b (-1) = b := by unfold chooseV; rw [if_neg (fun x => ha x.2), if_pos ea]
    rw [this, cmpV_refl]; exact ⟨ha, by omega, fun h => absurd ea h⟩
  · rw [choose_some ea ha]
    split
    · rename_i h; rw [h, cmpV_refl]; exact ⟨ea, by omega, fun _ => by omega⟩
    · rename_i h; rw [cmpV_neg a b, cmpV_refl]
      rcases cmpV_range a b with e | e | e
      · exact absurd e h
      · rw [e]; exact ⟨ha, by omega, fun _ => by omega⟩
      · rw [e]; exact ⟨ha, by omega, fun _ => by omega⟩
theorem choose_hi (a b : V) (ha : b.k ≠ 0) : (chooseV a b 1).k ≠ 0 ∧ cmpV b (chooseV a b 1) ≤ 0 ∧ (a.k ≠ 0 → cmpV a (chooseV a b 1) ≤ 0) := by
  by_cases ea : a.k = 0
  · have : chooseV a b 1 = b := by unfold chooseV; rw [if_neg (fun x => ha x.2), if_pos ea]
    rw [this, cmpV_refl]; exact ⟨ha, by omega, fun h => absurd ea h⟩
  · rw [choose_some ea ha]
    split
    · rename_i h; rw [cmpV_neg a b, h, cmpV_refl]; exact ⟨ea, by omega, fun _ => by omega⟩
    · rename_i h; rw [cmpV_refl]
      rcases cmpV_range a b with e | e | e
      · rw [e]; exact ⟨ha, by omega, fun _ => by omega⟩
      · rw [e]; exact ⟨ha, by omega, fun _ => by omega⟩
      · exact absurd e h
theorem cmpV_le_trans {a b c : V} (h : cmpV a b ≤ 0) (k : cmpV b c ≤ 0) : cmpV a c ≤ 0 := ((cmpV_tri a b c).1 h k).1
theorem Knows.nil : Knows Zn.zero [] := ⟨rfl, rfl, fun _ h => by simp at h, fun _ h => by simp at h⟩
theorem Knows.snoc {z : Zn} {l : List V} (h : Knows z l) (hl : l.length < 1000000) (hz : OkZ z) (v : V) : Knows (stepZ z v) (l ++ [v]) := by
  have hf : (l.filter fun v => decide (v.k = 0)).length ≤ l.length := List.length_filter_le _ _
  have h1 := h.nulls
  have h2 := h.many
  unfold stepZ oneZ
  by_cases e : v.k = 0
  · rw [if_pos e]
    refine ⟨?_, ?_, ?_, ?_⟩
    · show wrap64 (z.nulls + 1) = _
      rw [List.filter_append, List.length_append, List.filter_cons, if_pos (by simpa using e)]
      simp only [List.filter_nil, List.length_cons, List.length_nil]
      unfold wrap64; omega
    · show wrap64 (z.many + 1) = _
      rw [List.length_append]; simp only [List.length_cons, List.length_nil]
      unfold wrap64; omega
    · intro x hx hk
      show (chooseV z.lo V.zero _).k ≠ 0 ∧ _
      rw [show (mergeZ z ⟨V.zero, V.zero, 1, 1⟩).lo = z.lo from choose_zero_r hz.lo _, choose_zero_r hz.lo _]
      rcases List.mem_append.1 hx with hx | hx
      · exact h.lo x hx hk
      · rw [List.mem_singleton.1 hx] at hk; exact absurd e hk
    · intro x hx hk
      show (chooseV z.hi V.zero _).k ≠ 0 ∧ _
      rw [show (mergeZ z ⟨V.zero, V.zero, 1, 1⟩).hi = z.hi from choose_zero_r hz.hi _, choose_zero_r hz.hi _]
      rcases List.mem_append.1 hx with hx | hx
      · exact h.hi x hx hk
      · rw [List.mem_singleton.1 hx] at hk; exact absurd e hk
  · rw [if_neg e]
    have c1 := choose_lo z.lo v e
    have c2 := choose_hi z.hi v e
    refine ⟨?_, ?_, ?_, ?_⟩
    · show wrap64 (z.nulls + 0) = _
      rw [List.filter_append, List.length_append, List.filter_cons, if_neg (by simpa using e)]
      simp only [List.filter_nil, List.length_nil]
      unfold wrap64; omega
    · show wrap64 (z.many + 1) = _
      rw [List.length_append]; simp only [List.length_cons, List.length_nil]
      unfold wrap64; omega
    · intro x hx hk
      show (chooseV z.lo v _).k ≠ 0 ∧ cmpV (chooseV z.lo v _) x ≤ 0
      refine ⟨c1.1, ?_⟩
      rcases List.mem_append.1 hx with hx | hx
      · exact cmpV_le_trans (c1.2.2 (h.lo x hx hk).1) (h.lo x hx hk).2
      · rw [List.mem_singleton.1 hx]; exact c1.2.1
    · intro x hx hk
      show (chooseV z.hi v _).k ≠ 0 ∧ cmpV x (chooseV z.hi v _) ≤ 0
      refine ⟨c2.1, ?_⟩
      rcases List.mem_append.1 hx with hx | hx
      · exact cmpV_le_trans (h.hi x hx hk).2 (c2.2.2 (h.hi x hx hk).1)
      · rw [List.mem_singleton.1 hx]; exact c2.2.1
theorem Knows.of (l : List V) (hl : l.length ≤ 300) : Knows (ofZ l) l := by
  have : ∀ (y x : List V), (x ++ y).length ≤ 300 → Knows (ofZ x) x → Knows (y.foldl stepZ (ofZ x)) (x ++ y) := by
    intro y
    induction y with
    | nil => intro x _ h; simpa using h
    | cons v y ih =>
      intro x hx h
      rw [List.foldl_cons, show stepZ (ofZ x) v = ofZ (x ++ [v]) from (ofZ_snoc x v).symm, show x ++ v :: y = (x ++ [v]) ++ y by simp]
      refine ih _ (by simp at hx ⊢; omega) ?_
      rw [ofZ_snoc]
      exact h.snoc (by simp at hx; omega) (OkZ.of x) v
  exact this l [] (by simpa using hl) Knows.nil
/-- What may come of what is known: No, Unknown, Yes. -/
structure Tri3 where
  no : Bool
  un : Bool
  yes : Bool
def mayZ (z : Zn) (v : V) (no yes : Bool) : Tri3 :=
  ⟨decide (z.nulls < z.many ∧ v.k ≠ 0) && no, decide (0 < z.nulls ∨ (v.k = 0 ∧ 0 < z.many)), decide (z.nulls < z.many ∧ v.k ≠ 0) && yes⟩
def equalZ (z : Zn) (v : V) : Tri3 := mayZ z v (decide (cmpV v z.lo ≠ 0 ∨ cmpV v z.hi ≠ 0)) (decide (0 ≤ cmpV v z.lo ∧ cmpV v z.hi ≤ 0))
def lessZ (z : Zn) (v : V) : Tri3 := mayZ z v (decide (0 ≤ cmpV z.hi v)) (decide (cmpV z.lo v < 0))
def nullZ (z : Zn) : Tri3 := ⟨decide (z.nulls < z.many), false, decide (0 < z.nulls)⟩
def Tri3.at (t : Tri3) (k : Int) : Bool := if k = 0 then t.no else if k = 1 then t.un else t.yes
theorem Knows.counts {z : Zn} {l : List V} (h : Knows z l) {w : V} (hw : w ∈ l) : 0 < z.many ∧ (w.k = 0 → 0 < z.nulls) ∧ (w.k ≠ 0 → z.nulls < z.many) := by
  have h1 := h.nulls
  have h2 := h.many
  have h3 := List.length_pos_of_mem hw
  refine ⟨by omega, fun e => ?_, fun e => ?_⟩
  · have : w ∈ l.filter fun v => decide (v.k = 0) := List.mem_filter.2 ⟨hw, by simpa using e⟩
    have := List.length_pos_of_mem this
    omega
  · have : (l.filter fun v => decide (v.k = 0)).length < l.length := by
      have h4 : (l.filter fun v => decide (v.k = 0)).length ≤ l.length := List.length_filter_le _ _
      rcases Nat.lt_or_eq_of_le h4 with h5 | h5
      · exact h5
      · have := List.length_filter_eq_length_iff.1 h5 w hw
        exact absurd (by simpa using this) e
    omega
theorem sure_null {l : List V} {w : V} (hl : l.length ≤ 300) (hw : w ∈ l) : (w.k = 0 → (nullZ (ofZ l)).yes = true) ∧ (w.k ≠ 0 → (nullZ (ofZ l)).no = true) := by
  have c := (Knows.of l hl).counts hw
  exact ⟨fun e => by simpa [nullZ] using c.2.1 e, fun e => by simpa [nullZ] using c.2.2 e⟩
theorem sure_equal {l : List V} {w : V} (v : V) (hl : l.length ≤ 300) (hw : w ∈ l) : (equalZ (ofZ l) v).at (truthV w v (eqV w v)) = true := by
  have K := Knows.of l hl
  have c := K.counts hw
  unfold truthV equalZ mayZ Tri3.at
  by_cases e : w.k = 0 ∨ v.k = 0
  · rw [if_pos e]
    have : 0 < (ofZ l).nulls ∨ (v.k = 0 ∧ 0 < (ofZ l).many) := e.elim (fun e => .inl (c.2.1 e)) (fun e => .inr ⟨e, c.1⟩)
    simp [this]
  · rw [if_neg e]
    obtain ⟨e1, e2⟩ := not_or.1 e
    have c3 := c.2.2 e1
    have d1 := K.lo w hw e1
    have d2 := K.hi w hw e1
    by_cases q : eqV w v = true
    · have := eqV_iff.1 q
      subst this
      simp only [q]
      have d3 := cmpV_neg (ofZ l).lo w
      simp [c3, e1]
      refine ⟨by omega, by omega⟩
    · have q' : eqV w v = false := by simpa using q
      simp only [q']
      simp [c3, e2]
      by_cases z1 : cmpV v (ofZ l).lo = 0
      · right
        intro z2
        have x1 := cmpV_zero.1 z1
        have x2 := cmpV_zero.1 z2
        rw [← x1] at d1
        rw [← x2] at d2
        have d3 := cmpV_neg v w
        have : cmpV w v = 0 := by omega
        have := cmpV_zero.1 this
        exact q (eqV_iff.2 this)
      · left; exact z1
theorem sure_less {l : List V} {w : V} (v : V) (hl : l.length ≤ 300) (hw : w ∈ l) : (lessZ (ofZ l) v).at (truthV w v (decide (cmpV w v < 0))) = true := by
  have K := Knows.of l hl
  have c := K.counts hw
  unfold truthV lessZ mayZ Tri3.at
  by_cases e : w.k = 0 ∨ v.k = 0
  · rw [if_pos e]
    have : 0 < (ofZ l).nulls ∨ (v.k = 0 ∧ 0 < (ofZ l).many) := e.elim (fun e => .inl (c.2.1 e)) (fun e => .inr ⟨e, c.1⟩)
    simp [this]
  · rw [if_neg e]
    obtain ⟨e1, e2⟩ := not_or.1 e
    have c3 := c.2.2 e1
    have d1 := K.lo w hw e1
    have d2 := K.hi w hw e1
    by_cases q : cmpV w v < 0
    · have t := cmpV_tri (ofZ l).lo w v
      simp [c3, e2, q]
      have := t.1 d1.2 (by omega)
      omega
    · have t := cmpV_tri (ofZ l).hi v w
      have d3 := cmpV_neg w (ofZ l).hi
      have d4 := cmpV_neg w v
      have d5 := cmpV_neg (ofZ l).hi v
      simp [c3, e2, q]
      by_cases q2 : cmpV (ofZ l).hi v < 0
      · have := t.1 (by omega) (by omega)
        omega
      · omega
theorem ofZ_nil (v : V) : (equalZ (ofZ []) v = ⟨false, false, false⟩) ∧ (lessZ (ofZ []) v = ⟨false, false, false⟩) ∧ (nullZ (ofZ []) = ⟨false, false, false⟩) := by
  refine ⟨?_, ?_, rfl⟩ <;> simp [equalZ, lessZ, mayZ, ofZ, Zn.zero]
end Go.Proofs.Ytdpmaocbfmgmlaa
