/- Numbers whose frame bytes are: plain laws. -/
import Derived.Test.YtcjnehlbkjpgbaaRFrame
import Derived.Test.YtcjnehlbkjpgbaaRdr
set_option linter.unusedVariables false
set_option linter.unusedSimpArgs false
namespace Go.Proofs.Ytcjnehlbkjpgbaa
open Go.RowKit
theorem end_zero {r : List UInt8} {bad : Bool} (h : endE r bad = 0) : r = [] ∧ bad = false := by
  unfold endE at h
  cases bad <;> cases r <;> simp_all
theorem rd_spec {r : List UInt8} (h : rdBad r = false) : r = numB (rdN r) ++ rdRest r := by
  unfold rdBad at h
  cases ht : tnum r with
  | none => rw [ht] at h; cases h
  | some p => obtain ⟨n, t⟩ := p; obtain ⟨e1, e2, _⟩ := rd_of_some ht; rw [e1, e2]; exact tnum_spec ht
theorem rd_shorter {r : List UInt8} (h : rdBad r = false) : (rdRest r).length + 1 ≤ r.length := by
  have h1 := congrArg List.length (rd_spec h)
  have h2 := (numB_length (rdN r)).1
  rw [List.length_append] at h1
  omega
theorem rd_intB (n : Int) (h : -9223372036854775808 ≤ n ∧ n ≤ 9223372036854775807) (t : List UInt8) : zag (rdN (intB n ++ t)) = n ∧ rdRest (intB n ++ t) = t ∧ rdBad (intB n ++ t) = false := by
  have := tnum_numB (Lib.zigzag n) (by have := Lib.zigzag_lt h.1 h.2; omega) t
  obtain ⟨e1, e2, e3⟩ := rd_of_some this
  rw [intB, e1, e2, e3]
  exact ⟨zag_zig n, rfl, rfl⟩
theorem rd_numB (n : Nat) (h : n < 18446744073709551616) (t : List UInt8) : rdN (numB n ++ t) = n ∧ rdRest (numB n ++ t) = t ∧ rdBad (numB n ++ t) = false := by
  obtain ⟨e1, e2, e3⟩ := rd_of_some (tnum_numB n h t)
  exact ⟨e1, e2, e3⟩
theorem zag_in {n : Nat} (h : n < 18446744073709551616) : -9223372036854775808 ≤ zag n ∧ zag n ≤ 9223372036854775807 := by unfold zag; split <;> omega
/-- The number that is so much more than the least, as 64 bits hold it. -/
def addW (least : Int) (m : Nat) : Int := IntKind.i64.wrap (IntKind.u64.wrap (IntKind.u64.wrap least + m))
theorem addW_in (least : Int) (m : Nat) : -9223372036854775808 ≤ addW least m ∧ addW least m ≤ 9223372036854775807 := by
  unfold addW
  rw [IntKind.wrap_i64]
  omega
theorem addW_more (least n : Int) (hn : -9223372036854775808 ≤ n ∧ n ≤ 9223372036854775807) (hl : -9223372036854775808 ≤ least ∧ least ≤ 9223372036854775807) (h : least ≤ n) : addW least (n - least).toNat = n := by
  unfold addW
  rw [IntKind.wrap_i64, IntKind.wrap_u64, IntKind.wrap_u64]
  omega
theorem addW_zero (least : Int) (hl : -9223372036854775808 ≤ least ∧ least ≤ 9223372036854775807) : addW least 0 = least := by
  unfold addW
  rw [IntKind.wrap_i64, IntKind.wrap_u64, IntKind.wrap_u64]
  omega
theorem addW_inv (least : Int) (m : Nat) (hm : m < 2 ^ 64) (hl : -9223372036854775808 ≤ least ∧ least ≤ 9223372036854775807) (h : least ≤ addW least m) : (addW least m - least).toNat = m := by
  unfold addW at h ⊢
  rw [IntKind.wrap_i64, IntKind.wrap_u64, IntKind.wrap_u64] at h ⊢
  omega
def unfLeast (bs : List UInt8) : Int := zag (rdN (rdRest bs))
def unfW (bs : List UInt8) : Nat := rdN (rdRest (rdRest bs))
def unfRest (bs : List UInt8) : List UInt8 := rdRest (rdRest (rdRest bs))
def unfBad (bs : List UInt8) : Bool := (rdBad bs || rdBad (rdRest bs)) || rdBad (rdRest (rdRest bs))
def unfMore (bs : List UInt8) : List Nat := unpN (unfRest bs) (rdN bs) (unfW bs)
def unfL (bs : List UInt8) : List Int := (unfMore bs).map (addW (unfLeast bs))
/-- What Unframe says. -/
def unfO (bs : List UInt8) : Option (List Int) :=
  if rdN bs = 0 ∧ endE (rdRest bs) (rdBad bs) = 0 then some []
  else if rdN bs = 0 ∨ 4096 < rdN bs then none
  else if unfBad bs = true ∨ 64 < unfW bs then none
  else if unpE (unfRest bs) (rdN bs) (unfW bs) ≠ 0 then none
  else if widN (unfMore bs) ≠ unfW bs ∨ 0 ∉ unfMore bs then none
  else if ∀ m ∈ unfMore bs, unfLeast bs ≤ addW (unfLeast bs) m then some (unfL bs) else none
def tkF (o : Option (List Int)) : Int := if o.isSome then 0 else 6
theorem unpE_zero {b : List UInt8} {many width : Int} (h : unpE b many width = 0) : packB (unpN b many.toNat width.toNat) width.toNat = b := by
  unfold unpE at h
  split at h
  · next h1 => exact absurd h h1
  · split at h
    · cases h
    · split at h
      · assumption
      · cases h
theorem more_of (least : Int) (more : List Nat) (hl : -9223372036854775808 ≤ least ∧ least ≤ 9223372036854775807) (hm : ∀ x ∈ more, x < 2 ^ 64) (h0 : 0 ∈ more) (h : ∀ m ∈ more, least ≤ addW least m) :
    minE (more.map (addW least)) = least ∧ moreL (more.map (addW least)) = more := by
  have hne : more.map (addW least) ≠ [] := by intro e; rw [List.map_eq_nil_iff] at e; rw [e] at h0; cases h0
  have e : minE (more.map (addW least)) = least := by
    apply Int.le_antisymm
    · exact minE_le _ _ (List.mem_map.2 ⟨0, h0, addW_zero least hl⟩)
    · obtain ⟨m, hm, e⟩ := List.mem_map.1 (minE_mem _ hne)
      rw [← e]; exact h m hm
  refine ⟨e, ?_⟩
  unfold moreL
  rw [e, List.map_map]
  conv => rhs; rw [← List.map_id more]
  apply List.map_congr_left
  intro m hx
  exact addW_inv least m (hm m hx) hl (h m hx)
theorem unfO_frame (l : List Int) (hl : l.length ≤ 4096) (hi : inI l) : unfO (frameB l) = some l := by
  by_cases h0 : l = []
  · subst h0
    obtain ⟨f1, f2, f3⟩ := rd_numB 0 (by omega) []
    have hf : frameB [] = numB 0 ++ [] := rfl
    unfold unfO
    rw [hf, f1, f2, f3, if_pos ⟨rfl, rfl⟩]
  · have hlen : 0 < l.length := List.length_pos_iff.2 h0
    have hmin := hi _ (minE_mem l h0)
    have hmo := moreL_lt l hi
    have hw64 := widN_le64 (moreL l)
    have hwl := widN_max _ hmo
    have hf : frameB l = numB l.length ++ (intB (minE l) ++ (numB (widN (moreL l)) ++ packB (moreL l) (widN (moreL l)))) := by unfold frameB; rw [if_neg h0]
    obtain ⟨f1, f2, f3⟩ := rd_numB l.length (by omega) (intB (minE l) ++ (numB (widN (moreL l)) ++ packB (moreL l) (widN (moreL l))))
    obtain ⟨g1, g2, g3⟩ := rd_intB (minE l) hmin (numB (widN (moreL l)) ++ packB (moreL l) (widN (moreL l)))
    obtain ⟨k1, k2, k3⟩ := rd_numB (widN (moreL l)) (by omega) (packB (moreL l) (widN (moreL l)))
    rw [← hf] at f1 f2 f3
    have e1 : unfLeast (frameB l) = minE l := by unfold unfLeast; rw [f2, g1]
    have e2 : unfW (frameB l) = widN (moreL l) := by unfold unfW; rw [f2, g2, k1]
    have e3 : unfRest (frameB l) = packB (moreL l) (widN (moreL l)) := by unfold unfRest; rw [f2, g2, k2]
    have e4 : unfBad (frameB l) = false := by unfold unfBad; rw [f2, g2, f3, g3, k3]; rfl
    have hup := unp_pack (moreL l) (widN (moreL l)) hwl
    rw [moreL_length] at hup
    have e5 : unfMore (frameB l) = moreL l := by unfold unfMore; rw [e2, e3, f1, hup]
    have e6 : unfL (frameB l) = l := by
      unfold unfL
      rw [e5, e1]
      unfold moreL
      rw [List.map_map]
      conv => rhs; rw [← List.map_id l]
      apply List.map_congr_left
      intro n hn
      exact addW_more (minE l) n (hi n hn) hmin (minE_le l n hn)
    have e7 : unpE (unfRest (frameB l)) (rdN (frameB l)) (unfW (frameB l)) = 0 := by
      have hb := bytE_ok l.length (widN (moreL l)) hl hw64
      have hn := bytN_ok l.length (widN (moreL l)) hl hw64
      rw [e3, f1, e2, unpE_ok _ _ _ hb (by rw [packB_length, moreL_length, hn]), hup, if_pos rfl]
    unfold unfO
    rw [if_neg (by rw [f1]; omega), if_neg (by rw [f1]; omega), if_neg (by rw [e4, e2]; simp; omega), if_neg (by rw [e7]; simp), e5, e2, if_neg, e1, if_pos, e6]
    · intro m hm
      obtain ⟨n, hn, rfl⟩ := List.mem_map.1 hm
      rw [addW_more (minE l) n (hi n hn) hmin (minE_le l n hn)]
      exact minE_le l n hn
    · intro h
      rcases h with h | h
      · exact h rfl
      · exact h (List.mem_map.2 ⟨_, minE_mem l h0, by simp⟩)
theorem unfL_in (bs : List UInt8) : inI (unfL bs) := by
  intro n hn
  obtain ⟨m, _, rfl⟩ := List.mem_map.1 hn
  exact addW_in _ _
theorem unfL_length (bs : List UInt8) : (unfL bs).length = rdN bs := by unfold unfL unfMore; rw [List.length_map, unpN_length]
theorem unfMore_lt (bs : List UInt8) (h : unfW bs ≤ 64) : ∀ x ∈ unfMore bs, x < 2 ^ 64 := fun x hx => Nat.lt_of_lt_of_le (unpN_lt _ _ _ x hx) (Nat.pow_le_pow_right (by decide) h)
theorem unfO_some {bs : List UInt8} {l : List Int} (h : unfO bs = some l) : frameB l = bs ∧ inI l ∧ l.length ≤ 4096 ∧ (l = [] ∨ l = unfL bs) := by
  unfold unfO at h
  split at h
  · next h1 =>
    cases h
    obtain ⟨h2, h3⟩ := end_zero h1.2
    have h4 := rd_spec h3
    refine ⟨?_, ?_, by simp, .inl rfl⟩
    · rw [h2, h1.1] at h4
      rw [h4]; rfl
    · intro n hn; cases hn
  · split at h
    · cases h
    · next h2 =>
      split at h
      · cases h
      · next h3 =>
        split at h
        · cases h
        · next h4 =>
          split at h
          · cases h
          · next h5 =>
            split at h
            · next h6 =>
              cases h
              have hw : unfW bs ≤ 64 := by omega
              have hmz := zag_in (rdN_lt (rdRest bs))
              have hlen := unfL_length bs
              have hn : unfL bs ≠ [] := by intro e; rw [e] at hlen; simp at hlen; omega
              have h50 : 0 ∈ unfMore bs := Classical.byContradiction fun h => h5 (.inr h)
              have h5w : widN (unfMore bs) = unfW bs := Classical.byContradiction fun h => h5 (.inl h)
              obtain ⟨e1, e2⟩ := more_of (unfLeast bs) (unfMore bs) hmz (unfMore_lt bs hw) h50 h6
              have h40 : unpE (unfRest bs) (rdN bs) (unfW bs) = 0 := Classical.byContradiction fun h => h4 h
              have hp := unpE_zero h40
              rw [Int.toNat_natCast, Int.toNat_natCast] at hp
              have hb : unfBad bs = false := by
                cases hb : unfBad bs with
                | false => rfl
                | true => exact absurd (.inl hb) h3
              unfold unfBad at hb
              rw [Bool.or_eq_false_iff, Bool.or_eq_false_iff] at hb
              refine ⟨?_, unfL_in bs, by rw [hlen]; omega, .inr rfl⟩
              unfold frameB
              rw [if_neg hn, hlen]
              unfold unfL
              rw [e1, e2, h5w]
              show numB (rdN bs) ++ (intB (zag (rdN (rdRest bs))) ++ (numB (unfW bs) ++ packB (unpN (unfRest bs) (rdN bs) (unfW bs)) (unfW bs))) = bs
              rw [hp, intB, zig_zag]
              unfold unfW unfRest
              rw [← rd_spec hb.2, ← rd_spec hb.1.2, ← rd_spec hb.1.1]
            · cases h
/-- The reference's way. -/
theorem unfO_ref {bs : List UInt8} (h1 : rdN bs ≠ 0) : unfO bs = some (unfL bs) ∨ (unfO bs = none ∧ (rdN bs ≤ 4096 → frameB (unfL bs) ≠ bs)) := by
  cases h : unfO bs with
  | some l =>
    have h2 := unfO_some h
    rcases h2.2.2.2 with e | e
    · exfalso
      unfold unfO at h
      rw [if_neg (fun h => h1 h.1)] at h
      repeat' split at h
      all_goals first | cases h | skip
      have := unfL_length bs
      rw [e] at this
      simp at this; omega
    · rw [e]; exact .inl rfl
  | none =>
    refine .inr ⟨rfl, fun h3 h4 => ?_⟩
    have := unfO_frame (unfL bs) (by rw [unfL_length]; exact h3) (unfL_in bs)
    rw [h4, h] at this
    cases this
/-- Where the rest begins. -/
theorem unf_drop {bs : List UInt8} (h : unfBad bs = false) : bs.drop (bs.length - (unfRest bs).length) = unfRest bs ∧ (unfRest bs).length ≤ bs.length := by
  unfold unfBad at h
  rw [Bool.or_eq_false_iff, Bool.or_eq_false_iff] at h
  have e : bs = (numB (rdN bs) ++ (numB (rdN (rdRest bs)) ++ numB (rdN (rdRest (rdRest bs))))) ++ unfRest bs := by
    rw [List.append_assoc, List.append_assoc]
    unfold unfRest
    rw [← rd_spec h.2, ← rd_spec h.1.2, ← rd_spec h.1.1]
  generalize numB (rdN bs) ++ (numB (rdN (rdRest bs)) ++ numB (rdN (rdRest (rdRest bs)))) = p at e
  generalize unfRest bs = r at e
  subst e
  simp
theorem unfO_nil {bs : List UInt8} (h0 : rdN bs = 0) (h : endE (rdRest bs) (rdBad bs) = 0) : unfO bs = some [] := if_pos ⟨h0, h⟩
theorem unfO_end {bs : List UInt8} (h0 : rdN bs = 0) (h : endE (rdRest bs) (rdBad bs) ≠ 0) : unfO bs = none := by
  unfold unfO; rw [if_neg (fun h' => h h'.2), if_pos (.inl h0)]
theorem unfO_big {bs : List UInt8} (h : 4096 < rdN bs) : unfO bs = none := by
  unfold unfO; rw [if_neg (fun h' => by omega), if_pos (.inr h)]
theorem unfO_mid {bs : List UInt8} (h0 : rdN bs ≠ 0) (h : (unfBad bs = true ∨ 64 < unfW bs) ∨ unpE (unfRest bs) (rdN bs) (unfW bs) ≠ 0 ∨ (widN (unfMore bs) ≠ unfW bs ∨ 0 ∉ unfMore bs) ∨ ¬ ∀ m ∈ unfMore bs, unfLeast bs ≤ addW (unfLeast bs) m) : unfO bs = none := by
  unfold unfO
  rw [if_neg (fun h' => h0 h'.1)]
  split
  · rfl
  · split
    · rfl
    · next h1 =>
      split
      · rfl
      · next h2 =>
        split
        · rfl
        · next h3 =>
          split
          · next h4 =>
            rcases h with h | h | h | h
            · exact absurd h h1
            · exact absurd h h2
            · exact absurd h h3
            · exact absurd h4 h
          · rfl
theorem unfO_ok {bs : List UInt8} (h0 : rdN bs ≠ 0) (h1 : rdN bs ≤ 4096) (h2 : unfBad bs = false) (h3 : unfW bs ≤ 64) (h4 : unpE (unfRest bs) (rdN bs) (unfW bs) = 0) (h5 : widN (unfMore bs) = unfW bs) (h6 : 0 ∈ unfMore bs)
    (h7 : ∀ m ∈ unfMore bs, unfLeast bs ≤ addW (unfLeast bs) m) : unfO bs = some ((unfMore bs).map (addW (unfLeast bs))) := by
  unfold unfO
  rw [if_neg (fun h' => h0 h'.1), if_neg (by omega), if_neg (by rw [h2]; simp; omega), if_neg (by rw [h4]; simp), if_neg (fun h => h.elim (fun h => h h5) (fun h => h h6)), if_pos h7]
  rfl
theorem unf_unp {bs : List UInt8} (h : unpE (unfRest bs) (rdN bs) (unfW bs) = 0) : unpR (unfRest bs) (rdN bs) (unfW bs) = unfMore bs := by
  unfold unpR
  rw [if_pos h]
  rfl
end Go.Proofs.Ytcjnehlbkjpgbaa
