/- What is known of a column, as bytes: plain laws. -/
import Derived.Test.YtdpmaocbfmgmlaaZoneP
import Derived.Test.YtdpmaocbfmgmlaaCTakeP
set_option linter.unusedVariables false
set_option linter.unusedSimpArgs false
namespace Go.Proofs.Ytdpmaocbfmgmlaa
open Go.RowKit
def kindB (k : Int) : Bool := decide (k = 1 ∨ k = 2 ∨ k = 3)
def countB (z : Zn) : Bool := decide (0 ≤ z.many ∧ z.many ≤ 4096 ∧ 0 ≤ z.nulls ∧ z.nulls ≤ z.many)
def ofKind (k : Int) (v : V) : Bool := rightB v && decide (v.k = k)
def rightZ (k : Int) (z : Zn) : Bool :=
  kindB k && countB z && (if z.many - z.nulls = 0 then eqV z.lo V.zero && eqV z.hi V.zero
    else ofKind k z.lo && ofKind k z.hi && decide (cmpV z.lo z.hi = 0 ∨ (cmpV z.lo z.hi < 0 ∧ 1 < z.many - z.nulls)))
def putZ (z : Zn) : List UInt8 := putV z.lo ++ putV z.hi ++ intB z.nulls ++ intB z.many
/-- What is known by bytes: behind the values. -/
def tailZ (k : Int) (lo hi : V) (r : List UInt8) : Option Zn :=
  if endE (rdRest (rdRest r)) (rdBad r || rdBad (rdRest r)) = 0 ∧ rightZ k ⟨lo, hi, zag (rdN r), zag (rdN (rdRest r))⟩ = true then some ⟨lo, hi, zag (rdN r), zag (rdN (rdRest r))⟩ else none
def takeZ (k : Int) (b : List UInt8) : Option Zn :=
  match takeV b with
  | none => none
  | some (lo, r1) => match takeV r1 with
    | none => none
    | some (hi, r2) => tailZ k lo hi r2
def InR (n : Int) : Prop := -9223372036854775808 ≤ n ∧ n ≤ 9223372036854775807
theorem rd_intB (n : Int) (h : InR n) (t : List UInt8) : zag (rdN (intB n ++ t)) = n ∧ rdRest (intB n ++ t) = t ∧ rdBad (intB n ++ t) = false := by
  have := tnum_numB (Lib.zigzag n) (by have := Lib.zigzag_lt h.1 h.2; omega) t
  obtain ⟨e1, e2, e3⟩ := rd_of_some this
  rw [intB, e1, e2, e3]
  exact ⟨zag_zig n, rfl, rfl⟩
theorem canon_right {v : V} (h : rightB v = true) : canon v = v := by unfold canon; rw [if_pos h]
theorem takeZ_put (k : Int) (z : Zn) (h : rightZ k z = true) (hlo : rightB z.lo = true) (hhi : rightB z.hi = true) (h1 : InR z.lo.n) (h2 : InR z.hi.n) (h3 : InR z.nulls) (h4 : InR z.many) : takeZ k (putZ z) = some z := by
  unfold takeZ putZ
  rw [List.append_assoc, List.append_assoc, takeV_put _ _ h1]
  simp only
  rw [takeV_put _ _ h2]
  simp only
  rw [canon_right hlo, canon_right hhi]
  obtain ⟨a1, a2, a3⟩ := rd_intB z.nulls h3 (intB z.many)
  obtain ⟨b1, b2, b3⟩ := rd_intB z.many h4 []
  rw [List.append_nil] at b1 b2 b3
  unfold tailZ
  rw [a1, a2, a3, b1, b2, b3]
  rw [if_pos ⟨by simp [endE], h⟩]
/-- What is known of values are values of these. -/
structure From (z : Zn) (l : List V) : Prop where
  lo : z.lo = V.zero ∧ (∀ v ∈ l, v.k = 0) ∨ (z.lo ∈ l ∧ z.lo.k ≠ 0)
  hi : z.hi = V.zero ∧ (∀ v ∈ l, v.k = 0) ∨ (z.hi ∈ l ∧ z.hi.k ≠ 0)
theorem choose_from {a b : V} {way : Int} {l : List V} (hb : b.k ≠ 0) (h : a = V.zero ∧ (∀ v ∈ l, v.k = 0) ∨ (a ∈ l ∧ a.k ≠ 0)) : chooseV a b way ∈ l ++ [b] ∧ (chooseV a b way).k ≠ 0 := by
  rcases h with ⟨rfl, _⟩ | ⟨h1, h2⟩
  · have : chooseV V.zero b way = b := by unfold chooseV; rw [if_neg (fun x => hb x.2), if_pos (show V.zero.k = 0 from rfl)]
    rw [this]; exact ⟨by simp, hb⟩
  · rw [choose_some h2 hb]
    split
    · exact ⟨by simp [h1], h2⟩
    · exact ⟨by simp, hb⟩
theorem From.snoc {z : Zn} {l : List V} (h : From z l) (hz : OkZ z) (v : V) : From (stepZ z v) (l ++ [v]) := by
  unfold stepZ oneZ
  by_cases e : v.k = 0
  · rw [if_pos e]
    refine ⟨?_, ?_⟩
    · show chooseV z.lo V.zero _ = _ ∧ _ ∨ (chooseV z.lo V.zero _ ∈ _ ∧ (chooseV z.lo V.zero _).k ≠ 0)
      rw [choose_zero_r hz.lo]
      rcases h.lo with ⟨h1, h2⟩ | ⟨h1, h2⟩
      · refine .inl ⟨h1, fun u hu => ?_⟩
        rcases List.mem_append.1 hu with hu | hu
        · exact h2 u hu
        · rw [List.mem_singleton.1 hu]; exact e
      · exact .inr ⟨by simp [h1], h2⟩
    · show chooseV z.hi V.zero _ = _ ∧ _ ∨ (chooseV z.hi V.zero _ ∈ _ ∧ (chooseV z.hi V.zero _).k ≠ 0)
      rw [choose_zero_r hz.hi]
      rcases h.hi with ⟨h1, h2⟩ | ⟨h1, h2⟩
      · refine .inl ⟨h1, fun u hu => ?_⟩
        rcases List.mem_append.1 hu with hu | hu
        · exact h2 u hu
        · rw [List.mem_singleton.1 hu]; exact e
      · exact .inr ⟨by simp [h1], h2⟩
  · rw [if_neg e]
    exact ⟨.inr (choose_from e h.lo), .inr (choose_from e h.hi)⟩
theorem From.of (l : List V) : From (ofZ l) l := by
  have : ∀ (y x : List V), From (ofZ x) x → From (y.foldl stepZ (ofZ x)) (x ++ y) := by
    intro y
    induction y with
    | nil => intro x h; simpa using h
    | cons v y ih =>
      intro x h
      rw [List.foldl_cons, show stepZ (ofZ x) v = ofZ (x ++ [v]) from (ofZ_snoc x v).symm, show x ++ v :: y = (x ++ [v]) ++ y by simp]
      refine ih _ ?_
      rw [ofZ_snoc]
      exact h.snoc (OkZ.of x) v
  exact this l [] ⟨.inl ⟨rfl, by simp⟩, .inl ⟨rfl, by simp⟩⟩
theorem two_some {l : List V} {a b : V} (ha : a ∈ l) (hb : b ∈ l) (h1 : a.k ≠ 0) (h2 : b.k ≠ 0) (h : a ≠ b) : (l.filter fun v => decide (v.k = 0)).length + 2 ≤ l.length := by
  induction l with
  | nil => simp at ha
  | cons v l ih =>
    have hf : (l.filter fun v => decide (v.k = 0)).length ≤ l.length := List.length_filter_le _ _
    rcases List.mem_cons.1 ha with rfl | ha'
    · rcases List.mem_cons.1 hb with rfl | hb'
      · exact absurd rfl h
      · have : (l.filter fun v => decide (v.k = 0)).length < l.length := by
          rcases Nat.lt_or_eq_of_le hf with h5 | h5
          · exact h5
          · have := List.length_filter_eq_length_iff.1 h5 b hb'
            exact absurd (by simpa using this) h2
        rw [List.filter_cons, if_neg (by simpa using h1)]; simp; omega
    · rcases List.mem_cons.1 hb with rfl | hb'
      · have : (l.filter fun v => decide (v.k = 0)).length < l.length := by
          rcases Nat.lt_or_eq_of_le hf with h5 | h5
          · exact h5
          · have := List.length_filter_eq_length_iff.1 h5 a ha'
            exact absurd (by simpa using this) h1
        rw [List.filter_cons, if_neg (by simpa using h2)]; simp; omega
      · have := ih ha' hb'
        rw [List.filter_cons]
        split <;> simp <;> omega
theorem right_of (k : Int) (l : List V) (hl : l.length ≤ 300) (hk : kindB k = true) (h : ∀ v ∈ l, rightB v = true ∧ (v.k = 0 ∨ v.k = k)) : rightZ k (ofZ l) = true ∧ rightB (ofZ l).lo = true ∧ rightB (ofZ l).hi = true := by
  have K := Knows.of l hl
  have F := From.of l
  have h1 := K.nulls
  have h2 := K.many
  have hf : (l.filter fun v => decide (v.k = 0)).length ≤ l.length := List.length_filter_le _ _
  have hc : countB (ofZ l) = true := by unfold countB; simp only [decide_eq_true_eq]; omega
  have hz : ∀ a : V, a ∈ l → a.k ≠ 0 → ofKind k a = true ∧ rightB a = true := fun a ha hn => by
    obtain ⟨g1, g2⟩ := h a ha
    unfold ofKind
    rw [g1]
    exact ⟨by simpa using g2.resolve_left hn, rfl⟩
  unfold rightZ
  rw [hk, hc]
  simp only [Bool.true_and]
  by_cases e : (ofZ l).many - (ofZ l).nulls = 0
  · rw [if_pos e]
    have hall : ∀ v ∈ l, v.k = 0 := by
      have : (l.filter fun v => decide (v.k = 0)).length = l.length := by omega
      intro v hv
      simpa using List.length_filter_eq_length_iff.1 this v hv
    have e1 : (ofZ l).lo = V.zero := by
      rcases F.lo with ⟨g, _⟩ | ⟨g1, g2⟩
      · exact g
      · exact absurd (hall _ g1) g2
    have e2 : (ofZ l).hi = V.zero := by
      rcases F.hi with ⟨g, _⟩ | ⟨g1, g2⟩
      · exact g
      · exact absurd (hall _ g1) g2
    rw [e1, e2]
    exact ⟨by rw [eqV_refl]; rfl, right_zero, right_zero⟩
  · rw [if_neg e]
    have hex : ∃ v ∈ l, v.k ≠ 0 := by
      have hlt : (l.filter fun v => decide (v.k = 0)).length < l.length := by omega
      refine Classical.byContradiction fun hno => ?_
      have hall : ∀ v ∈ l, decide (v.k = 0) = true := fun v hv => by
        refine decide_eq_true (Classical.byContradiction fun hn => hno ⟨v, hv, hn⟩)
      have := List.length_filter_eq_length_iff.2 hall
      omega
    obtain ⟨v, hv, hvn⟩ := hex
    have d1 := K.lo v hv hvn
    have d2 := K.hi v hv hvn
    have f1 : (ofZ l).lo ∈ l ∧ (ofZ l).lo.k ≠ 0 := by
      rcases F.lo with ⟨g, g2⟩ | g
      · exact absurd (g2 v hv) hvn
      · exact g
    have f2 : (ofZ l).hi ∈ l ∧ (ofZ l).hi.k ≠ 0 := by
      rcases F.hi with ⟨g, g2⟩ | g
      · exact absurd (g2 v hv) hvn
      · exact g
    obtain ⟨g1, g2⟩ := hz _ f1.1 f1.2
    obtain ⟨g3, g4⟩ := hz _ f2.1 f2.2
    rw [g1, g3]
    refine ⟨?_, g2, g4⟩
    simp only [Bool.true_and, decide_eq_true_eq]
    have hle := cmpV_le_trans d1.2 d2.2
    by_cases e0 : cmpV (ofZ l).lo (ofZ l).hi = 0
    · exact .inl e0
    · right
      have hne : (ofZ l).lo ≠ (ofZ l).hi := fun x => e0 (cmpV_zero.2 x)
      have := two_some f1.1 f2.1 f1.2 f2.2 hne
      omega
end Go.Proofs.Ytdpmaocbfmgmlaa
