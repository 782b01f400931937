/- Runs: plain laws. -/
import Derived.Test.YtkgcjafediimnaaBase
set_option linter.unusedVariables false
set_option linter.unusedSimpArgs false
namespace Go.Proofs.Ytkgcjafediimnaa
open Go.RowKit
/-- A run: a number, and how often it stands. -/
structure Rn where
  n : Int
  k : Int
deriving DecidableEq
theorem Rn.ext_ {a b : Rn} (h1 : a.n = b.n) (h2 : a.k = b.k) : a = b := by cases a; cases b; simp_all
/-- A number, c times, ahead of runs. -/
def preR (y c : Int) : List Rn → List Rn
  | r :: t => if r.n = y then ⟨y, c + r.k⟩ :: t else ⟨y, c⟩ :: r :: t
  | [] => [⟨y, c⟩]
def ofR : List Int → List Rn
  | [] => []
  | x :: l => preR x 1 (ofR l)
theorem preR_pre (y c d : Int) (rs : List Rn) : preR y c (preR y d rs) = preR y (c + d) rs := by
  cases rs with
  | nil => simp [preR]
  | cons r t =>
    by_cases h : r.n = y
    · simp [preR, h]; omega
    · simp [preR, h]
theorem preR_ne (y c x d : Int) (rs : List Rn) (h : x ≠ y) : preR y c (preR x d rs) = ⟨y, c⟩ :: preR x d rs := by
  cases rs with
  | nil => simp [preR, h]
  | cons r t =>
    by_cases h2 : r.n = x
    · simp [preR, h2, h]
    · simp [preR, h2, h]
theorem preR_head (y c : Int) (rs : List Rn) : ∃ k t, preR y c rs = ⟨y, k⟩ :: t := by
  cases rs with
  | nil => exact ⟨_, _, rfl⟩
  | cons r t =>
    by_cases h : r.n = y
    · exact ⟨c + r.k, t, by simp [preR, h]⟩
    · exact ⟨c, r :: t, by simp [preR, h]⟩
/-- c more of the first run. -/
def addR (c : Int) : List Rn → List Rn
  | r :: t => ⟨r.n, c + r.k⟩ :: t
  | [] => []
theorem addR_zero (rs : List Rn) : addR 0 rs = rs := by cases rs <;> simp [addR]
theorem addR_pre (c y d : Int) (rs : List Rn) : addR c (preR y d rs) = preR y (c + d) rs := by
  cases rs with
  | nil => simp [addR, preR]
  | cons r t =>
    by_cases h : r.n = y
    · simp [addR, preR, h]; omega
    · simp [addR, preR, h]
/-- The program's step: a run ends. -/
theorem of_end (x c : Int) (l : List Int) (h : ∀ y, l.head? = some y → y ≠ x) : addR c (ofR (x :: l)) = ⟨x, c + 1⟩ :: ofR l := by
  rw [ofR, addR_pre]
  cases l with
  | nil => simp [ofR, preR]
  | cons y l =>
    rw [ofR, preR_ne _ _ _ _ _ (h y rfl)]
/-- The program's step: a run goes on. -/
theorem of_more (x c : Int) (l : List Int) (h : l.head? = some x) : addR c (ofR (x :: l)) = addR (c + 1) (ofR l) := by
  cases l with
  | nil => simp at h
  | cons y l =>
    simp at h; subst h
    rw [ofR, addR_pre, ofR, preR_pre, addR_pre]
theorem ofR_length : ∀ l : List Int, (ofR l).length ≤ l.length
  | [] => Nat.le_refl _
  | x :: l => by
    have := ofR_length l
    rw [ofR]
    revert this
    generalize ofR l = rs
    intro this
    cases rs with
    | nil => simp [preR]
    | cons r t =>
      simp only [List.length_cons] at this ⊢
      by_cases h : r.n = x
      · simp [preR, h]; omega
      · simp [preR, h]; omega
/-- No two side by side have the same number. -/
def apart : List Rn → Bool
  | a :: b :: t => !(b.n == a.n) && apart (b :: t)
  | _ => true
theorem apart_pre (y c : Int) (rs : List Rn) (h : apart rs = true) : apart (preR y c rs) = true := by
  cases rs with
  | nil => rfl
  | cons r t =>
    by_cases e : r.n = y
    · cases t with
      | nil => simp [preR, e, apart]
      | cons s t =>
        simp [apart, e] at h
        simp [preR, e, apart, h]
    · simp [preR, e, apart, h]
theorem apart_of : ∀ l, apart (ofR l) = true
  | [] => rfl
  | x :: l => apart_pre _ _ _ (apart_of l)
def flatR (rs : List Rn) : List Int := rs.flatMap fun r => List.replicate r.k.toNat r.n
theorem ofR_replicate (n : Int) (d : List Int) : ∀ k : Nat, ofR (List.replicate (k + 1) n ++ d) = preR n (k + 1 : Nat) (ofR d)
  | 0 => by simp [ofR]
  | k + 1 => by
    rw [List.replicate_succ, List.cons_append, ofR, ofR_replicate n d k, preR_pre]; congr 1; omega
theorem of_flat : ∀ rs : List Rn, (∀ r ∈ rs, 1 ≤ r.k) → apart rs = true → ofR (flatR rs) = rs
  | [], _, _ => rfl
  | r :: rs, h, ha => by
    have h1 := h r (by simp)
    have ih := of_flat rs (fun x hx => h x (by simp [hx])) (by
      cases rs with
      | nil => rfl
      | cons s t => simp [apart] at ha; simp [ha])
    obtain ⟨q, hq⟩ : ∃ q, r.k.toNat = q + 1 := ⟨r.k.toNat - 1, by omega⟩
    rw [show flatR (r :: rs) = List.replicate r.k.toNat r.n ++ flatR rs from rfl, hq, ofR_replicate, ih]
    have hk : ((q + 1 : Nat) : Int) = r.k := by omega
    rw [hk]
    cases rs with
    | nil => rfl
    | cons s t =>
      simp [apart] at ha
      simp [preR, ha]
theorem of_flat_iff (rs : List Rn) (h : ∀ r ∈ rs, 1 ≤ r.k) : decide (ofR (flatR rs) = rs) = apart rs := by
  cases e : apart rs with
  | true => simpa using of_flat rs h e
  | false =>
    simp only [decide_eq_false_iff_not]
    intro e2
    have := apart_of (flatR rs)
    rw [e2, e] at this
    cases this
theorem flat_pre (y c : Int) (rs : List Rn) (hc : 0 ≤ c) (h : ∀ r ∈ rs, 1 ≤ r.k) : flatR (preR y c rs) = List.replicate c.toNat y ++ flatR rs := by
  cases rs with
  | nil => rfl
  | cons r t =>
    have := h r (by simp)
    by_cases e : r.n = y
    · simp only [preR, e, if_true]
      show List.replicate (c + r.k).toNat y ++ flatR t = _
      rw [show (c + r.k).toNat = c.toNat + r.k.toNat by omega, ← List.replicate_append_replicate, List.append_assoc]
      show _ = List.replicate c.toNat y ++ (List.replicate r.k.toNat r.n ++ flatR t)
      rw [e]
    · simp only [preR, e, if_false]; rfl
theorem ofR_pos : ∀ (l : List Int), ∀ r ∈ ofR l, 1 ≤ r.k
  | [], r, h => by simp [ofR] at h
  | x :: l, r, h => by
    have ih := ofR_pos l
    rw [ofR] at h
    revert h
    generalize ofR l = rs at ih
    intro h
    cases rs with
    | nil => simp [preR] at h; subst h; exact Int.le_refl _
    | cons s t =>
      by_cases e : s.n = x
      · simp only [preR, e, if_true, List.mem_cons] at h
        rcases h with rfl | h
        · have := ih s (by simp); show 1 ≤ 1 + s.k; omega
        · exact ih r (by simp [h])
      · simp only [preR, e, if_false, List.mem_cons] at h
        rcases h with rfl | h
        · exact Int.le_refl _
        · exact ih r (by simpa using h)
theorem flat_of : ∀ l : List Int, flatR (ofR l) = l
  | [] => rfl
  | x :: l => by rw [ofR, flat_pre _ _ _ (by decide) (ofR_pos l), flat_of l]; rfl
/-- How many numbers runs have. -/
def totR : List Rn → Int
  | [] => 0
  | r :: t => r.k + totR t
theorem totR_append : ∀ a b : List Rn, totR (a ++ b) = totR a + totR b
  | [], b => by simp [totR]
  | r :: a, b => by simp [totR, totR_append a b]; omega
theorem flatR_length : ∀ rs : List Rn, (∀ r ∈ rs, 1 ≤ r.k) → ((flatR rs).length : Int) = totR rs
  | [], _ => rfl
  | r :: t, h => by
    have h1 := h r (by simp)
    have ih := flatR_length t (fun x hx => h x (by simp [hx]))
    show ((List.replicate r.k.toNat r.n ++ flatR t).length : Int) = r.k + totR t
    rw [List.length_append, List.length_replicate]; omega
theorem totR_ge : ∀ rs : List Rn, (∀ r ∈ rs, 1 ≤ r.k) → (rs.length : Int) ≤ totR rs
  | [], _ => Int.le_refl _
  | r :: t, h => by
    have h1 := h r (by simp)
    have ih := totR_ge t (fun x hx => h x (by simp [hx]))
    simp [totR]; omega
theorem totR_of (l : List Int) : totR (ofR l) = l.length := by
  rw [← flatR_length _ (ofR_pos l), flat_of]
def less1 (rs : List Rn) : Bool := rs.any fun r => decide (r.k < 1)
theorem less1_false {rs : List Rn} (h : less1 rs = false) : ∀ r ∈ rs, 1 ≤ r.k := by
  intro r hr
  have := List.any_eq_false.1 h r hr
  simp at this; omega
theorem less1_of (l : List Int) : less1 (ofR l) = false := List.any_eq_false.2 fun r hr => by have := ofR_pos l r hr; simp; omega
def errR (rs : List Rn) : Int := if less1 rs then 1 else if 4096 < totR rs then 3 else 0
def sumR (rs : List Rn) : Int := if errR rs = 0 then totR rs else 0
def flatE (rs : List Rn) : List Int := if errR rs = 0 then flatR rs else []
def rightR (rs : List Rn) : Bool := apart rs && decide (errR rs = 0)
theorem errR_ok {rs : List Rn} (h : errR rs = 0) : less1 rs = false ∧ totR rs ≤ 4096 := by
  unfold errR at h
  split at h
  · cases h
  · rename_i h1
    split at h
    · cases h
    · rename_i h2; exact ⟨by simpa using h1, by omega⟩
theorem errR_of (l : List Int) (h : l.length ≤ 4096) : errR (ofR l) = 0 := by
  unfold errR
  rw [less1_of, totR_of]; simp; omega
/-- The run of a place. -/
def atGo : List Rn → Int → Int → Int × Int
  | [], _, run => (0, run)
  | r :: t, left, run => if r.k ≤ left then atGo t (left - r.k) (run + 1) else (r.n, run)
def atOk (rs : List Rn) (p : Int) : Bool := decide (errR rs = 0 ∧ 0 ≤ p ∧ p < totR rs)
def atN (rs : List Rn) (p : Int) : Int := if atOk rs p then (atGo rs p 0).1 else 0
def atI (rs : List Rn) (p : Int) : Int := if atOk rs p then (atGo rs p 0).2 else 0
theorem atGo_flat : ∀ (rs : List Rn) (p : Nat) (run : Int), (∀ r ∈ rs, 1 ≤ r.k) → (p : Int) < totR rs → (flatR rs)[p]? = some (atGo rs p run).1
  | [], p, run, _, h => by simp [totR] at h; omega
  | r :: t, p, run, hp, h => by
    have h1 := hp r (by simp)
    show (List.replicate r.k.toNat r.n ++ flatR t)[p]? = _
    unfold atGo
    split
    · rename_i h2
      have ih := atGo_flat t (p - r.k.toNat) (run + 1) (fun x hx => hp x (by simp [hx])) (by rw [totR] at h; omega)
      rw [List.getElem?_append_right (by simp; omega), List.length_replicate, ih]
      congr 3; have : ((p - r.k.toNat : Nat) : Int) = p - r.k := by omega
      rw [this]
    · rename_i h2
      rw [List.getElem?_append_left (by simp; omega)]
      rw [List.getElem?_replicate, if_pos (by omega)]
end Go.Proofs.Ytkgcjafediimnaa
