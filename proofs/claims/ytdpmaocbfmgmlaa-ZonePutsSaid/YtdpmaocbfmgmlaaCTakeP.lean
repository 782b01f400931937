/- The value that bytes begin with: plain laws. -/
import Derived.Test.YtdpmaocbfmgmlaaCPut
import Derived.Test.YtdpmaocbfmgmlaaRdrT
set_option linter.unusedVariables false
set_option linter.unusedSimpArgs false
namespace Go.Proofs.Ytdpmaocbfmgmlaa
open Go.RowKit
/-- Behind a kind: the value, the bytes behind, whether it could not be taken. -/
def takeK (c : Nat) (r : List UInt8) : V × List UInt8 × Bool :=
  if c = 1 ∨ c = 2 then (⟨c, zag (rdN r), ⟨#[]⟩⟩, rdRest r, rdBad r) else if c = 3 then (⟨3, 0, strOf (rdT r)⟩, rdTRest r, rdTBad r) else (⟨c, 0, ⟨#[]⟩⟩, r, false)
def takeV : List UInt8 → Option (V × List UInt8)
  | [] => none
  | c :: r => if (takeK c.toNat r).2.2 || !rightB (takeK c.toNat r).1 then none else some ((takeK c.toNat r).1, (takeK c.toNat r).2.1)
def tkV (o : Option (V × List UInt8)) : V := match o with | none => V.zero | some p => p.1
def tkL (o : Option (V × List UInt8)) : List UInt8 := match o with | none => [] | some p => p.2
def tkE (o : Option (V × List UInt8)) : Int := if o.isSome then 0 else 6
theorem rdRest_drop (l : List UInt8) : ∃ k, rdRest l = l.drop k := by
  unfold rdRest
  cases h : tnum l with
  | none => exact ⟨l.length, by simp⟩
  | some p =>
    obtain ⟨n, r⟩ := p
    refine ⟨(numB n).length, ?_⟩
    rw [tnum_spec h]
    simp
theorem rdTRest_drop (l : List UInt8) : ∃ k, rdTRest l = l.drop k := by
  unfold rdTRest
  cases h : rdText l with
  | none => exact ⟨l.length, by simp⟩
  | some p =>
    obtain ⟨k, hk⟩ := rdRest_drop l
    exact ⟨k + rdN l, by simp only [hk, List.drop_drop]⟩
theorem drop_of_drop {l s : List UInt8} {k : Nat} (h : s = l.drop k) : s.length ≤ l.length ∧ l.drop (l.length - s.length) = s := by
  subst h
  refine ⟨by rw [List.length_drop]; omega, ?_⟩
  by_cases hk : k ≤ l.length
  · rw [List.length_drop, show l.length - (l.length - k) = k by omega]
  · rw [List.drop_of_length_le (by omega : l.length ≤ k)]; simp
theorem takeK_drop (c : Nat) (r : List UInt8) : (takeK c r).2.1.length ≤ r.length ∧ r.drop (r.length - (takeK c r).2.1.length) = (takeK c r).2.1 := by
  unfold takeK
  split
  · obtain ⟨k, hk⟩ := rdRest_drop r; exact drop_of_drop hk
  · split
    · obtain ⟨k, hk⟩ := rdTRest_drop r; exact drop_of_drop hk
    · simp
theorem takeV_drop {l : List UInt8} {v : V} {r : List UInt8} (h : takeV l = some (v, r)) : r.length < l.length := by
  match l, h with
  | c :: s, h =>
    simp only [takeV] at h
    split at h
    · cases h
    · simp only [Option.some.injEq, Prod.mk.injEq] at h
      have := (takeK_drop c.toNat s).1
      rw [h.2] at this
      simp; omega
theorem rdText_put (s r : List UInt8) (h : s.length ≤ 1024) : rdT (textB s ++ r) = s ∧ rdTRest (textB s ++ r) = r ∧ rdTBad (textB s ++ r) = false := by
  have ht : tnum (textB s ++ r) = some (s.length, s ++ r) := by
    unfold textB; rw [List.append_assoc]; exact tnum_numB _ (by omega) _
  obtain ⟨e1, e2, e3⟩ := rd_of_some ht
  have e : rdText (textB s ++ r) = some s := by
    unfold rdText
    rw [e1, e2, if_neg (by simp; omega)]
    simp
  refine ⟨by simp [rdT, e], by simp only [rdTRest, e, e1, e2]; simp, by simp [rdTBad, e, e3]⟩
theorem emp_mk : (⟨#[]⟩ : ByteArray) = ByteArray.empty := rfl
theorem takeV_of {c : UInt8} {r rest : List UInt8} {v : V} (h : takeK c.toNat r = (v, rest, false)) (hr : rightB v = true) : takeV (c :: r) = some (v, rest) := by simp [takeV, h, hr]
theorem right_zero : rightB V.zero = true := by simp [rightB, rightP, V.zero, emp_toList]
theorem takeV_put (a : V) (l : List UInt8) (hn : -9223372036854775808 ≤ a.n ∧ a.n ≤ 9223372036854775807) : takeV (putV a ++ l) = some (canon a, l) := by
  obtain ⟨r1, r2, r3, r4⟩ := right_of_box
  have hint : ∀ (n : Int), -9223372036854775808 ≤ n ∧ n ≤ 9223372036854775807 → zag (rdN (intB n ++ l)) = n ∧ rdRest (intB n ++ l) = l ∧ rdBad (intB n ++ l) = false := by
    intro n hn
    have ht : tnum (intB n ++ l) = some (Lib.zigzag n, l) := tnum_numB _ (by have := Lib.zigzag_lt hn.1 hn.2; omega) _
    obtain ⟨e1, e2, e3⟩ := rd_of_some ht
    exact ⟨by rw [e1]; exact zag_zig n, e2, e3⟩
  unfold putV
  rcases canon_cases a with h | h | h | h | ⟨hs, h⟩ <;> rw [h]
  · exact takeV_of (by simp [takeK, tailV, V.zero, emp_mk]) right_zero
  · obtain ⟨e1, e2, e3⟩ := hint 0 (by decide)
    exact takeV_of (by simp [takeK, tailV, e1, e2, e3, emp_mk]) r1
  · obtain ⟨e1, e2, e3⟩ := hint 1 (by decide)
    exact takeV_of (by simp [takeK, tailV, e1, e2, e3, emp_mk]) r2
  · obtain ⟨e1, e2, e3⟩ := hint a.n hn
    exact takeV_of (by simp [takeK, tailV, e1, e2, e3, emp_mk]) (r3 _)
  · obtain ⟨e1, e2, e3⟩ := rdText_put a.s.data.toList l (by rw [data_length]; exact hs)
    exact takeV_of (by simp [takeK, tailV, e1, e2, e3, strOf_data]) (r4 _ hs)
end Go.Proofs.Ytdpmaocbfmgmlaa
