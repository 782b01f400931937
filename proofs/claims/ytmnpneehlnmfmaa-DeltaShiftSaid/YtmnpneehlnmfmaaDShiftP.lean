/- Steps of numbers that are all more by the same: plain laws. -/
import Derived.Test.YtmnpneehlnmfmaaDTakeP
set_option linter.unusedVariables false
namespace Go.Proofs.Ytmnpneehlnmfmaa
open Go.RowKit
/-- The bytes of steps. -/
def stepsB : Int → List Int → List UInt8
  | _, [] => []
  | last, n :: l => intB (n - last) ++ stepsB n l
theorem stepsB_shift (d : Int) : ∀ (l : List Int) (last : Int), stepsB (last + d) (l.map (· + d)) = stepsB last l
  | [], _ => rfl
  | n :: l, last => by
    simp only [List.map_cons, stepsB]
    rw [stepsB_shift d l n, show n + d - (last + d) = n - last by omega]
def Few (n : Int) : Prop := -4611686018427387904 ≤ n ∧ n ≤ 4611686018427387903
theorem putGo_few : ∀ (l : List Int) (acc : List UInt8) (last : Int), Few last → (∀ n ∈ l, Few n) → putGo acc last l = some (acc ++ stepsB last l)
  | [], acc, last, _, _ => by simp [putGo, stepsB]
  | n :: l, acc, last, hl, hr => by
    have hn := hr n (List.mem_cons_self ..)
    unfold Few at hl hn
    have hs : stp last n = true := decide_eq_true (by omega)
    rw [putGo_step _ _ _ _ hs, putGo_few l _ n hn (fun m hm => hr m (List.mem_cons_of_mem _ hm)), stepsB, List.append_assoc]
theorem put_few (l : List Int) (hl : l.length ≤ 4096) (hr : ∀ n ∈ l, Few n) : putC l = 0 ∧ putR l = numB l.length ++ stepsB 0 l := by
  have hp : putO l = some (numB l.length ++ stepsB 0 l) := putGo_few l _ 0 (by unfold Few; omega) hr
  exact ⟨by unfold putC putK; rw [if_pos hl, hp]; rfl, by unfold putR; rw [if_pos hl, hp]; rfl⟩
theorem stepsB_zeros : ∀ k : Nat, (stepsB 0 (List.replicate k 0)).length = k
  | 0 => rfl
  | k + 1 => by
    rw [List.replicate_succ, stepsB, List.length_append, stepsB_zeros k]
    have : (intB (0 - 0)).length = 1 := by decide +kernel
    omega
theorem rises_shift (l : List Int) (d : Int) : risesB (l.map (· + d)) = risesB l := by
  unfold risesB
  rw [List.length_map]
  have : ∀ i ∈ List.range (l.length - 1), decide ((l.map (· + d)).getD i 0 ≤ (l.map (· + d)).getD (i + 1) 0) = decide (l.getD i 0 ≤ l.getD (i + 1) 0) := by
    intro i hi
    rw [List.mem_range] at hi
    have h1 : i < l.length := by omega
    have h2 : i + 1 < l.length := by omega
    simp [List.getD, h1, h2]
  rw [Bool.eq_iff_iff, List.all_eq_true, List.all_eq_true]
  constructor
  · intro h i hi; rw [← this i hi]; exact h i hi
  · intro h i hi; rw [this i hi]; exact h i hi
theorem intB_zero : numB 1 = [1] := by decide +kernel
/-- What comes of the bytes of numbers, of the numbers that are all more, of the first ones, of as many zeros. -/
def ShiftOf (j : Nat) (X Y P Q M : List UInt8) : Prop :=
  ∃ i k d : Nat, M.length = j + d ∧ d ≤ 9 ∧ P.length ≤ 10 ∧ Q.length ≤ 10 ∧ i + 1 = d + P.length ∧ k + 1 = d + Q.length ∧ i ≤ X.length ∧ k ≤ Y.length ∧ X.drop i = Y.drop k
theorem shift_law (L : List Int) (d : Int) (h1 : 1 ≤ L.length) (h2 : L.length ≤ 4096) (hf : ∀ n ∈ L, Few n) (hg : ∀ n ∈ L, Few (n + d)) :
    putC L = 0 ∧ putC (L.map (· + d)) = 0 ∧ putC (L.take 1) = 0 ∧ putC ((L.map (· + d)).take 1) = 0 ∧ putC (List.replicate L.length 0) = 0 ∧
    ShiftOf L.length (putR L) (putR (L.map (· + d))) (putR (L.take 1)) (putR ((L.map (· + d)).take 1)) (putR (List.replicate L.length 0)) := by
  match L, h1 with
  | n :: l, _ =>
    have hg' : ∀ m ∈ (n :: l).map (· + d), Few m := by
      intro m hm; obtain ⟨x, hx, rfl⟩ := List.mem_map.1 hm; exact hg x hx
    obtain ⟨a1, a2⟩ := put_few (n :: l) h2 hf
    obtain ⟨b1, b2⟩ := put_few ((n :: l).map (· + d)) (by rw [List.length_map]; exact h2) hg'
    obtain ⟨c1, c2⟩ := put_few ((n :: l).take 1) (by simp) (fun m hm => hf m (List.mem_of_mem_take hm))
    obtain ⟨d1, d2⟩ := put_few (((n :: l).map (· + d)).take 1) (by simp) (fun m hm => hg' m (List.mem_of_mem_take hm))
    obtain ⟨e1, e2⟩ := put_few (List.replicate (n :: l).length 0) (by rw [List.length_replicate]; exact h2) (fun m hm => by rw [List.eq_of_mem_replicate hm]; unfold Few; omega)
    refine ⟨a1, b1, c1, d1, e1, ?_⟩
    have e3 := stepsB_zeros (n :: l).length
    have s1 : stepsB 0 (n :: l) = intB n ++ stepsB n l := by rw [stepsB]; simp
    have s2 : stepsB 0 ((n :: l).map (· + d)) = intB (n + d) ++ stepsB n l := by
      rw [List.map_cons, stepsB, ← stepsB_shift d l n]; simp
    rw [s1] at a2
    rw [s2, List.length_map] at b2
    rw [List.length_replicate] at e2
    have c3 : putR ((n :: l).take 1) = [1] ++ intB n := by rw [c2]; simp [stepsB, intB_zero]
    have d3 : putR (((n :: l).map (· + d)).take 1) = [1] ++ intB (n + d) := by rw [d2]; simp [stepsB, intB_zero]
    rw [a2, b2, c3, d3, e2]
    have k1 := (numB_length (n :: l).length).2
    have k2 := (intB_length n).2
    have k3 := (intB_length (n + d)).2
    generalize stepsB 0 (List.replicate (n :: l).length 0) = z at *
    generalize numB (n :: l).length = u at *
    generalize stepsB n l = y at *
    generalize intB n = p at *
    generalize intB (n + d) = q at *
    refine ⟨u.length + p.length, u.length + q.length, u.length, ?_, k1, ?_, ?_, ?_, ?_, ?_, ?_, ?_⟩
    · rw [List.length_append, e3]; omega
    · simp; omega
    · simp; omega
    · simp; omega
    · simp; omega
    · simp
    · simp
    · rw [← List.append_assoc, ← List.append_assoc, ← List.length_append, ← List.length_append, List.drop_left, List.drop_left]
end Go.Proofs.Ytmnpneehlnmfmaa
