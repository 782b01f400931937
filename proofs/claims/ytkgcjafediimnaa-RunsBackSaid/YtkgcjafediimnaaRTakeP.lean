/- Numbers taken from their runs' bytes: plain laws. -/
import Derived.Test.YtkgcjafediimnaaRPut
import Derived.Test.YtkgcjafediimnaaRunsFew
import Derived.Test.YtkgcjafediimnaaRdr
import Derived.Test.YtkgcjafediimnaaRRight
set_option linter.unusedVariables false
set_option linter.unusedSimpArgs false
namespace Go.Proofs.Ytkgcjafediimnaa
open Go.RowKit
def InR (n : Int) : Prop := -9223372036854775808 ≤ n ∧ n ≤ 9223372036854775807
def one1 (r : List UInt8) : Rn := ⟨zag (rdN r), min (rdN (rdRest r)) 4097⟩
def rest2 (r : List UInt8) : List UInt8 := rdRest (rdRest r)
def bad2 (r : List UInt8) : Bool := rdBad r || rdBad (rdRest r)
/-- As the program takes k runs. -/
def kGo : Nat → List UInt8 → Bool → List Rn → List Rn × List UInt8 × Bool
  | 0, r, bad, out => (out, r, bad)
  | k + 1, r, bad, out => if bad then (out, r, bad) else kGo k (rest2 r) (bad || bad2 r) (out ++ [one1 r])
def takeO (bs : List UInt8) : Option (List Int) :=
  if endE (kGo (rdN bs) (rdRest bs) (rdBad bs) []).2.1 (kGo (rdN bs) (rdRest bs) (rdBad bs) []).2.2 = 0 ∧ rightR (kGo (rdN bs) (rdRest bs) (rdBad bs) []).1 = true then some (flatR (kGo (rdN bs) (rdRest bs) (rdBad bs) []).1) else none
/-- As the reference takes them. -/
def rGo : Nat → List UInt8 → Bool → List Rn → Option (List Rn × List UInt8 × Bool)
  | 0, r, bad, out => some (out, r, bad)
  | k + 1, r, bad, out => if bad then some (out, r, bad) else if 4096 < rdN (rdRest r) then none else rGo k (rest2 r) (bad || bad2 r) (out ++ [one1 r])
def refE (bs : List UInt8) (p : List Rn × List UInt8 × Bool) : Option (List Int) := if endE p.2.1 p.2.2 = 0 ∧ errR p.1 = 0 ∧ putR (flatE p.1) = bs then some (flatE p.1) else none
def refO (bs : List UInt8) : Option (List Int) := match rGo (rdN bs) (rdRest bs) (rdBad bs) [] with | none => none | some p => refE bs p
/-- What Take tells: the kind. -/
def tkC (o : Option (List Int)) : Int := if o.isSome then 0 else 6
theorem zag_in {n : Nat} (h : n < 18446744073709551616) : InR (zag n) := by unfold InR zag; split <;> omega
theorem end_zero {r : List UInt8} {bad : Bool} (h : endE r bad = 0) : r = [] ∧ bad = false := by
  unfold endE at h
  cases bad <;> cases r <;> simp_all
theorem rd_spec {r : List UInt8} (h : rdBad r = false) : r = numB (rdN r) ++ rdRest r := by
  unfold rdBad at h
  cases ht : tnum r with
  | none => rw [ht] at h; cases h
  | some p => obtain ⟨n, t⟩ := p; obtain ⟨e1, e2, _⟩ := rd_of_some ht; rw [e1, e2]; exact tnum_spec ht
theorem rd_shorter {r : List UInt8} (h : rdBad r = false) : (rdRest r).length + 1 ≤ r.length := by
  have h1 := congrArg List.length (rd_spec h)
  have h2 := (numB_length (rdN r)).1
  rw [List.length_append] at h1
  omega
theorem rd_intB (n : Int) (h : InR n) (t : List UInt8) : zag (rdN (intB n ++ t)) = n ∧ rdRest (intB n ++ t) = t ∧ rdBad (intB n ++ t) = false := by
  have := tnum_numB (Lib.zigzag n) (by have := Lib.zigzag_lt h.1 h.2; omega) t
  obtain ⟨e1, e2, e3⟩ := rd_of_some this
  rw [intB, e1, e2, e3]
  exact ⟨zag_zig n, rfl, rfl⟩
theorem rd_numB (n : Nat) (h : n < 18446744073709551616) (t : List UInt8) : rdN (numB n ++ t) = n ∧ rdRest (numB n ++ t) = t ∧ rdBad (numB n ++ t) = false := by
  obtain ⟨e1, e2, e3⟩ := rd_of_some (tnum_numB n h t)
  exact ⟨e1, e2, e3⟩
theorem kGo_bad (k : Nat) (r : List UInt8) (out : List Rn) : kGo k r true out = (out, r, true) := by cases k <;> rfl
theorem rGo_bad (k : Nat) (r : List UInt8) (out : List Rn) : rGo k r true out = some (out, r, true) := by cases k <;> rfl
/-- The reference's way is the program's, but for what is cut off. -/
theorem rGo_k : ∀ (k : Nat) (r : List UInt8) (bad : Bool) (out : List Rn) (p : List Rn × List UInt8 × Bool), rGo k r bad out = some p → kGo k r bad out = p
  | 0, r, bad, out, p, h => by simpa [rGo, kGo] using h
  | k + 1, r, bad, out, p, h => by
    cases bad with
    | true => rw [rGo_bad] at h; rw [kGo_bad]; exact Option.some.inj h
    | false =>
      simp only [rGo, Bool.false_eq_true, if_false] at h
      simp only [kGo, Bool.false_eq_true, if_false]
      split at h
      · cases h
      · exact rGo_k k _ _ _ _ h
theorem kGo_spec : ∀ (k : Nat) (r : List UInt8) (bad : Bool) (out l : List Rn), kGo k r bad out = (l, [], false) →
    bad = false ∧ ∃ ys, l = out ++ ys ∧ ys.length = k ∧ (∀ y ∈ ys, InR y.n) ∧ ((∀ y ∈ ys, y.k ≤ 4096) → r = ys.flatMap runB ∧ rGo k r bad out = some (l, [], false))
  | 0, r, bad, out, l, h => by
    simp only [kGo, Prod.mk.injEq] at h
    obtain ⟨rfl, rfl, rfl⟩ := h
    exact ⟨rfl, [], by simp, rfl, by simp, fun _ => ⟨rfl, rfl⟩⟩
  | k + 1, r, bad, out, l, h => by
    cases bad with
    | true => rw [kGo_bad] at h; simp at h
    | false =>
      simp only [kGo, Bool.false_eq_true, if_false, Bool.false_or] at h
      obtain ⟨hb, ys, e1, e2, e3, e4⟩ := kGo_spec k _ _ _ l h
      refine ⟨rfl, one1 r :: ys, by rw [e1, List.append_assoc]; rfl, by simp [e2], ?_, ?_⟩
      · intro y hy
        rcases List.mem_cons.1 hy with rfl | hy
        · exact zag_in (rdN_lt r)
        · exact e3 y hy
      · intro hk
        obtain ⟨f1, f2⟩ := e4 (fun y hy => hk y (List.mem_cons_of_mem _ hy))
        have hk1 := hk (one1 r) (List.mem_cons_self ..)
        simp only [one1] at hk1
        have hle : rdN (rdRest r) ≤ 4096 := by omega
        unfold bad2 at hb
        rw [Bool.or_eq_false_iff] at hb
        refine ⟨?_, ?_⟩
        · rw [List.flatMap_cons, ← f1, runB, one1]
          simp only
          rw [intB, zig_zag, show (min ((rdN (rdRest r) : Nat) : Int) 4097).toNat = rdN (rdRest r) by omega, List.append_assoc]
          rw [rest2, ← rd_spec hb.2]
          exact rd_spec hb.1
        · simp only [rGo, Bool.false_eq_true, if_false, Bool.false_or]
          rw [if_neg (by omega)]
          exact f2
theorem kGo_put : ∀ (ys : List Rn) (out : List Rn), (∀ y ∈ ys, InR y.n ∧ 1 ≤ y.k ∧ y.k ≤ 4096) → kGo ys.length (ys.flatMap runB) false out = (out ++ ys, [], false)
  | [], out, _ => by simp [kGo]
  | y :: ys, out, h => by
    obtain ⟨h1, h2, h3⟩ := h y (List.mem_cons_self ..)
    obtain ⟨e1, e2, e3⟩ := rd_intB y.n h1 (numB y.k.toNat ++ ys.flatMap runB)
    obtain ⟨f1, f2, f3⟩ := rd_numB y.k.toNat (by omega) (ys.flatMap runB)
    have e0 : (y :: ys).flatMap runB = intB y.n ++ (numB y.k.toNat ++ ys.flatMap runB) := by rw [List.flatMap_cons, runB, List.append_assoc]
    have ho : one1 ((y :: ys).flatMap runB) = y := by
      rw [e0, one1, e1, e2, f1]
      refine Rn.ext_ rfl ?_
      show min ((y.k.toNat : Nat) : Int) 4097 = y.k
      omega
    rw [List.length_cons, kGo, if_neg (by decide), ho, rest2, bad2, e0, e2, e3, f2, f3]
    have := kGo_put ys (out ++ [y]) (fun x hx => h x (List.mem_cons_of_mem _ hx))
    simpa using this
theorem takeO_put {l : List Int} (hl : l.length ≤ 4096) (hr : ∀ n ∈ l, InR n) : takeO (putR l) = some l := by
  have hp : putR l = numB (ofR l).length ++ (ofR l).flatMap runB := by unfold putR runsB; rw [if_pos hl]
  obtain ⟨f1, f2, f3⟩ := rd_numB (ofR l).length (by have := ofR_length l; omega) ((ofR l).flatMap runB)
  have hk := kGo_put (ofR l) [] (fun y hy => ⟨ofR_n l hr y hy, (ofR_k l y hy).1, by have := (ofR_k l y hy).2; omega⟩)
  rw [List.nil_append] at hk
  unfold takeO
  rw [hp, f1, f2, f3, hk]
  have he : rightR (ofR l) = true := by unfold rightR; rw [apart_of, errR_of l hl]; rfl
  rw [if_pos ⟨by simp [endE], he⟩, flat_of]
theorem put_takeO {l : List Int} {bs : List UInt8} (h : takeO bs = some l) : l.length ≤ 4096 ∧ (∀ n ∈ l, InR n) ∧ putR l = bs ∧ refO bs = some l := by
  unfold takeO at h
  split at h
  · rename_i hc
    obtain ⟨h1, h2⟩ := hc
    obtain ⟨e1, e2⟩ := end_zero h1
    generalize hp : kGo (rdN bs) (rdRest bs) (rdBad bs) [] = p at h h2 e1 e2
    obtain ⟨x, r, bad⟩ := p
    simp only at h h2 e1 e2
    subst e1 e2
    obtain ⟨hb, ys, g1, g2, g3, g4⟩ := kGo_spec _ _ _ _ x hp
    rw [List.nil_append] at g1
    subst g1
    have h2' := h2
    unfold rightR at h2'
    simp only [Bool.and_eq_true, decide_eq_true_eq] at h2'
    obtain ⟨ha, he⟩ := h2'
    have hok := errR_ok he
    have hpos := less1_false hok.1
    obtain ⟨g5, g6⟩ := g4 (fun y hy => Int.le_trans (totR_mem x hpos y hy) hok.2)
    cases h
    have hlen : (flatR x).length ≤ 4096 := by have := flatR_length x hpos; omega
    have hput : putR (flatR x) = bs := by
      unfold putR runsB
      rw [if_pos hlen, of_flat x hpos ha, g2, ← g5]
      exact (rd_spec hb).symm
    refine ⟨hlen, ?_, hput, ?_⟩
    · intro n hn
      obtain ⟨y, hy, hny⟩ := List.mem_flatMap.1 hn
      rw [(List.mem_replicate.1 hny).2]
      exact g3 y hy
    · unfold refO
      rw [g6]
      show refE bs (x, [], false) = _
      unfold refE
      rw [flatE_ok he, if_pos ⟨by simp [endE], he, hput⟩]
  · cases h
theorem refO_eq (bs : List UInt8) : refO bs = takeO bs := by
  cases ht : takeO bs with
  | some l => exact (put_takeO ht).2.2.2
  | none =>
    cases hr : refO bs with
    | none => rfl
    | some l =>
      exfalso
      unfold refO at hr
      split at hr
      · cases hr
      · rename_i p hp
        unfold refE at hr
        split at hr
        · rename_i hc
          obtain ⟨h1, h2, h3⟩ := hc
          have hk := rGo_k _ _ _ _ _ hp
          obtain ⟨x, r, bad⟩ := p
          obtain ⟨e1, e2⟩ := end_zero h1
          simp only at e1 e2 h2 h3 hk
          subst e1 e2
          obtain ⟨_, ys, g1, _, g3, _⟩ := kGo_spec _ _ _ _ x hk
          rw [List.nil_append] at g1
          subst g1
          have hl := flatE_len x
          have hin : ∀ n ∈ flatE x, InR n := by
            rw [flatE_ok h2]
            intro n hn
            obtain ⟨y, hy, hny⟩ := List.mem_flatMap.1 hn
            rw [(List.mem_replicate.1 hny).2]
            exact g3 y hy
          have := takeO_put hl hin
          rw [h3, ht] at this
          cases this
        · cases hr
theorem takeO_none_C {bs : List UInt8} : tkC (takeO bs) = 0 ∨ (tkC (takeO bs) = 6 ∧ takeO bs = none) := by
  cases h : takeO bs with
  | some l => exact .inl rfl
  | none => exact .inr ⟨rfl, rfl⟩
end Go.Proofs.Ytkgcjafediimnaa
