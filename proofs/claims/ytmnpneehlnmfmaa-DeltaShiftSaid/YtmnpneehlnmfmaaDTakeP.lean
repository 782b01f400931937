/- Numbers taken from their steps: plain laws. -/
import Derived.Test.YtmnpneehlnmfmaaDPut
import Derived.Test.YtmnpneehlnmfmaaRdr
set_option linter.unusedVariables false
namespace Go.Proofs.Ytmnpneehlnmfmaa
open Go.RowKit
def InR (n : Int) : Prop := -9223372036854775808 ≤ n ∧ n ≤ 9223372036854775807
/-- The numbers behind those that were taken, of k steps more. -/
def tkGo : Nat → List UInt8 → Bool → Int → List Int → Option (List Int)
  | 0, r, bad, _, out => if endE r bad = 0 then some out else none
  | k + 1, r, bad, last, out =>
    if decide (wrap64 (last + zag (rdN r)) < last) = decide (zag (rdN r) < 0) then tkGo k (rdRest r) (bad || rdBad r) (wrap64 (last + zag (rdN r))) (out ++ [wrap64 (last + zag (rdN r))]) else none
def takeO (bs : List UInt8) : Option (List Int) := if rdN bs ≤ 4096 then tkGo (rdN bs) (rdRest bs) (rdBad bs) 0 [] else none
/-- The same, by the reference. -/
def rkGo : Nat → List UInt8 → Bool → Int → List Int → List Int × List UInt8 × Bool
  | 0, r, bad, _, out => (out, r, bad)
  | k + 1, r, bad, last, out => if bad then (out, r, bad) else rkGo k (rdRest r) (bad || rdBad r) (wrap64 (last + zag (rdN r))) (out ++ [wrap64 (last + zag (rdN r))])
def rkEnd (bs : List UInt8) (p : List Int × List UInt8 × Bool) : Option (List Int) := if endE p.2.1 p.2.2 = 0 ∧ putC p.1 = 0 ∧ putR p.1 = bs then some p.1 else none
def refO (bs : List UInt8) : Option (List Int) := if rdN bs ≤ 4096 then rkEnd bs (rkGo (rdN bs) (rdRest bs) (rdBad bs) 0 []) else none
/-- What Take tells: the kind. -/
def tkC (o : Option (List Int)) : Int := if o.isSome then 0 else 6

theorem wrap64_in (n : Int) : InR (wrap64 n) := by unfold InR wrap64; omega
theorem wrap64_of {n : Int} (h : InR n) : wrap64 n = n := by unfold InR at h; unfold wrap64; omega
theorem zag_in {n : Nat} (h : n < 18446744073709551616) : InR (zag n) := by unfold InR zag; split <;> omega
theorem no_over {last s : Int} (hl : InR last) (hs : InR s) (h : decide (wrap64 (last + s) < last) = decide (s < 0)) : InR (last + s) := by
  unfold InR at *
  have h' : wrap64 (last + s) < last ↔ s < 0 := by
    constructor
    · intro h1; rw [decide_eq_true h1] at h; exact of_decide_eq_true h.symm
    · intro h1; rw [decide_eq_true h1] at h; exact of_decide_eq_true h
  unfold wrap64 at h'
  omega
theorem end_zero {r : List UInt8} {bad : Bool} (h : endE r bad = 0) : r = [] ∧ bad = false := by
  unfold endE at h
  cases bad <;> cases r <;> simp_all
theorem rd_spec {r : List UInt8} (h : rdBad r = false) : r = numB (rdN r) ++ rdRest r := by
  unfold rdBad at h
  cases ht : tnum r with
  | none => rw [ht] at h; cases h
  | some p => obtain ⟨n, t⟩ := p; obtain ⟨e1, e2, _⟩ := rd_of_some ht; rw [e1, e2]; exact tnum_spec ht
theorem tk_put : ∀ (k : Nat) (r : List UInt8) (bad : Bool) (last : Int) (out l : List Int), InR last → tkGo k r bad last out = some l →
    bad = false ∧ ∃ zs, l = out ++ zs ∧ zs.length = k ∧ (∀ n ∈ zs, InR n) ∧ (∀ acc, putGo acc last zs = some (acc ++ r)) ∧ rkGo k r bad last out = (l, [], false)
  | 0, r, bad, last, out, l, _, h => by
    unfold tkGo at h
    split at h
    · rename_i he
      obtain ⟨rfl, rfl⟩ := end_zero he
      cases h
      exact ⟨rfl, [], by simp, rfl, by simp, fun acc => by simp [putGo], rfl⟩
    · cases h
  | k + 1, r, bad, last, out, l, hl, h => by
    unfold tkGo at h
    split at h
    · rename_i hd
      have hz := zag_in (rdN_lt r)
      have ho := no_over hl hz hd
      rw [wrap64_of ho] at h
      obtain ⟨hb, zs, e1, e2, e3, e4, e5⟩ := tk_put k _ _ _ _ l ho h
      rw [Bool.or_eq_false_iff] at hb
      obtain ⟨rfl, hb⟩ := hb
      refine ⟨rfl, (last + zag (rdN r)) :: zs, by rw [e1, List.append_assoc]; rfl, by simp [e2], ?_, ?_, ?_⟩
      · intro n hn
        rcases List.mem_cons.1 hn with rfl | hn
        · exact ho
        · exact e3 n hn
      · intro acc
        have hs : stp last (last + zag (rdN r)) = true := decide_eq_true (by unfold InR at hz; omega)
        rw [putGo_step _ _ _ _ hs, e4, show last + zag (rdN r) - last = zag (rdN r) by omega, List.append_assoc]
        congr 2
        rw [intB, zig_zag]
        exact (rd_spec hb).symm
      · unfold rkGo
        rw [if_neg (by simp), wrap64_of ho]
        exact e5
    · cases h
theorem putGo_acc : ∀ (zs : List Int) (acc : List UInt8) (last : Int) (x : List UInt8), putGo acc last zs = some x → ∃ y, x = acc ++ y ∧ ∀ acc', putGo acc' last zs = some (acc' ++ y)
  | [], acc, last, x, h => by
    simp only [putGo, Option.some.injEq] at h
    exact ⟨[], by simp [h], fun acc' => by simp [putGo]⟩
  | n :: zs, acc, last, x, h => by
    cases hs : stp last n with
    | false => rw [putGo_stop _ _ _ _ hs] at h; cases h
    | true =>
      rw [putGo_step _ _ _ _ hs] at h
      obtain ⟨y, e1, e2⟩ := putGo_acc zs _ _ _ h
      exact ⟨intB (n - last) ++ y, by rw [e1, List.append_assoc], fun acc' => by rw [putGo_step _ _ _ _ hs, e2, List.append_assoc]⟩
theorem rd_intB (n : Int) (h : InR n) (t : List UInt8) : zag (rdN (intB n ++ t)) = n ∧ rdRest (intB n ++ t) = t ∧ rdBad (intB n ++ t) = false := by
  have := tnum_numB (Lib.zigzag n) (by have := Lib.zigzag_lt h.1 h.2; omega) t
  obtain ⟨e1, e2, e3⟩ := rd_of_some this
  rw [intB, e1, e2, e3]
  exact ⟨zag_zig n, rfl, rfl⟩
theorem put_tk : ∀ (zs : List Int) (r : List UInt8) (last : Int) (out : List Int), InR last → (∀ n ∈ zs, InR n) → (∀ acc, putGo acc last zs = some (acc ++ r)) → tkGo zs.length r false last out = some (out ++ zs)
  | [], r, last, out, _, _, h => by
    have := h []
    simp only [putGo, Option.some.injEq, List.nil_append] at this
    rw [← this]
    simp [tkGo, endE]
  | n :: zs, r, last, out, hl, hr, h => by
    have hn := hr n (List.mem_cons_self ..)
    have h0 := h []
    cases hs : stp last n with
    | false => rw [putGo_stop _ _ _ _ hs] at h0; cases h0
    | true =>
      rw [putGo_step _ _ _ _ hs] at h0
      obtain ⟨y, e1, e2⟩ := putGo_acc zs _ _ _ h0
      simp only [List.nil_append] at e1
      subst e1
      have hd' : -9223372036854775808 ≤ n - last ∧ n - last ≤ 9223372036854775807 := of_decide_eq_true hs
      have hd : InR (n - last) := hd'
      obtain ⟨f1, f2, f3⟩ := rd_intB (n - last) hd y
      have hw : wrap64 (last + (n - last)) = n := by rw [show last + (n - last) = n by omega]; exact wrap64_of hn
      rw [List.length_cons, tkGo, f1, f2, f3, hw]
      rw [if_pos (by
        by_cases hlt : n < last
        · rw [decide_eq_true hlt, decide_eq_true (by omega)]
        · rw [decide_eq_false hlt, decide_eq_false (by omega)])]
      have := put_tk zs y n (out ++ [n]) hn (fun m hm => hr m (List.mem_cons_of_mem _ hm)) e2
      simpa using this
theorem takeO_put {l : List Int} {bs : List UInt8} (hl : l.length ≤ 4096) (hr : ∀ n ∈ l, InR n) (h : putO l = some bs) : takeO bs = some l := by
  unfold putO at h
  obtain ⟨y, e1, e2⟩ := putGo_acc l _ _ _ h
  obtain ⟨f1, f2, f3⟩ := rd_of_some (tnum_numB l.length (by omega) y)
  subst e1
  unfold takeO
  rw [f1, f2, f3, if_pos hl]
  simpa using put_tk l y 0 [] (by unfold InR; omega) hr e2
theorem put_takeO {l : List Int} {bs : List UInt8} (h : takeO bs = some l) : l.length ≤ 4096 ∧ (∀ n ∈ l, InR n) ∧ putO l = some bs ∧ refO bs = some l := by
  unfold takeO at h
  split at h
  · rename_i hn
    obtain ⟨hb, zs, e1, e2, e3, e4, e5⟩ := tk_put _ _ _ _ _ l (by unfold InR; omega) h
    simp only [List.nil_append] at e1
    subst e1
    have hp : putO l = some bs := by unfold putO; rw [e2, e4, ← rd_spec hb]
    have hl : l.length ≤ 4096 := by omega
    refine ⟨hl, e3, hp, ?_⟩
    unfold refO
    rw [if_pos hn, e5, rkEnd, if_pos ⟨by simp [endE], by unfold putC putK; rw [if_pos hl, hp]; rfl, by unfold putR; rw [if_pos hl, hp]; rfl⟩]
  · cases h
theorem rk_in : ∀ (k : Nat) (r : List UInt8) (bad : Bool) (last : Int) (out : List Int), (∀ n ∈ out, InR n) → ∀ n ∈ (rkGo k r bad last out).1, InR n
  | 0, _, _, _, _, h => h
  | k + 1, r, bad, last, out, h => by
    unfold rkGo
    split
    · exact h
    · refine rk_in k _ _ _ _ ?_
      intro n hn
      rcases List.mem_append.1 hn with hn | hn
      · exact h n hn
      · rw [List.mem_singleton.1 hn]; exact wrap64_in _
theorem putC_zero {l : List Int} (h : putC l = 0) : l.length ≤ 4096 ∧ putO l = some (putR l) := by
  unfold putC putK at h
  split at h
  · rename_i hl
    refine ⟨hl, ?_⟩
    unfold putR
    rw [if_pos hl]
    cases ho : putO l with
    | none => rw [ho] at h; cases h
    | some x => rfl
  · cases h
theorem refO_eq (bs : List UInt8) : refO bs = takeO bs := by
  cases ht : takeO bs with
  | some l => exact (put_takeO ht).2.2.2
  | none =>
    cases hr : refO bs with
    | none => rfl
    | some l =>
      exfalso
      unfold refO rkEnd at hr
      split at hr
      · split at hr
        · rename_i hc
          obtain ⟨_, h2, h3⟩ := hc
          obtain ⟨h4, h5⟩ := putC_zero h2
          rw [h3] at h5
          have := takeO_put h4 (rk_in _ _ _ _ _ (by simp)) h5
          rw [ht] at this
          cases this
        · cases hr
      · cases hr
end Go.Proofs.Ytmnpneehlnmfmaa
