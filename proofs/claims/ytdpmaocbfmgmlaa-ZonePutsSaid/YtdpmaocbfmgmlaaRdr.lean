/- octets.Reader: what its methods return, and what they leave of the reader. -/
import Derived.Test.YtdpmaocbfmgmlaaOct
import Derived.Test.YtdpmaocbfmgmlaaMix
set_option linter.unusedVariables false
set_option linter.unusedSimpArgs false
namespace Go.Proofs.Ytdpmaocbfmgmlaa
open Go.RowKit

/-- A reader lies in block g: of these bytes, bad or not. It and its bytes lie in blocks from B on, ahead of T. -/
def Rdr (e : TypeId) (B T : Nat) (w : World) (g : Nat) (l : List UInt8) (bad : Bool) : Prop :=
  ∃ ao n cap, w.heap[g]? = some (.cells #[.slice ao n cap, .bool bad] e (0, 0)) ∧ l.length = n ∧ n ≤ cap ∧ n ≤ 140737488355328 ∧ Cs w ao (bcells l) ∧ (B ≤ g ∧ g < T) ∧ ∀ a, ao = some a → a.block ≠ g ∧ B ≤ a.block ∧ a.block < T

theorem heap_lt {w : World} {g : Nat} {o : Obj} (h : w.heap[g]? = some o) : g < w.heap.size := (Array.getElem?_eq_some_iff.1 h).1
theorem cell_of {w : World} {g : Nat} {cs : Array Value} {e : TypeId} {fz : Nat × Nat} (h : w.heap[g]? = some (.cells cs e fz)) (j : Nat) : w.cell? ⟨g, j, none⟩ = cs[j]? := by simp [World.cell?, h]
theorem free_of {w : World} {g : Nat} {cs : Array Value} {e : TypeId} (h : w.heap[g]? = some (.cells cs e (0, 0))) (j : Nat) : w.frozen? ⟨g, j, none⟩ = false := by simp [World.frozen?, h]
theorem set_of {w : World} {g : Nat} {cs : Array Value} {e : TypeId} {fz : Nat × Nat} (h : w.heap[g]? = some (.cells cs e fz)) (j : Nat) (u : Value) : (w.setCell ⟨g, j, none⟩ u).heap[g]? = some (.cells (cs.setIfInBounds j u) e fz) := by
  simp [World.setCell, Array.getElem?_modify, h]
theorem grown_set (w : World) (g j : Nat) (u : Value) : w.grownBy (w.setCell ⟨g, j, none⟩ u) (some g) :=
  ⟨rfl, rfl, rfl, by simp [World.setCell], fun k hk hne => Below.heap_setCell _ _ _ _ (fun e => hne (by rw [e]))⟩
theorem grown_trans {a b c : World} {row : Option Nat} (h : a.grownBy b row) (k : b.grownBy c row) : a.grownBy c row :=
  ⟨k.os.trans h.os, k.tape.trans h.tape, k.output.trans h.output, Nat.le_trans h.size k.size, fun i hi hne => (k.block i (Nat.lt_of_lt_of_le hi h.size) hne).trans (h.block i hi hne)⟩
theorem grown_refl (w : World) (row : Option Nat) : w.grownBy w row := World.grownBy.refl w row
theorem grown_below {w w' : World} {g : Nat} (h : Below w.heap.size w w') : w.grownBy w' (some g) := ⟨h.os, h.tape, h.output, h.size, fun k hk _ => h.block k hk⟩
theorem Cs.grown {w w' : World} {g : Nat} {ao : Option Addr} {xs : List Value} (h : Cs w ao xs) (hg : w.grownBy w' (some g)) (hne : ∀ a, ao = some a → a.block ≠ g) : Cs w' ao xs := by
  intro j u hj
  obtain ⟨b, o, e, hc⟩ := h j u hj
  exact ⟨b, o, e, hg.cell hc (by simpa using hne _ e)⟩
theorem Cs.drop {w : World} {b o : Nat} {xs : List Value} (h : Cs w (some ⟨b, o, none⟩) xs) (k : Nat) : Cs w (some ⟨b, o + k, none⟩) (xs.drop k) := by
  intro j u hj
  rw [List.getElem?_drop] at hj
  exact ⟨b, o + k, rfl, by rw [Nat.add_assoc]; exact h.at hj⟩
theorem Rdr.lt {e : TypeId} {B T : Nat} {w : World} {g : Nat} {l : List UInt8} {bad : Bool} (h : Rdr e B T w g l bad) : g < w.heap.size := by
  obtain ⟨_, _, _, hh, _⟩ := h; exact heap_lt hh
theorem Rdr.below {e : TypeId} {B T : Nat} {w w' : World} {g : Nat} {l : List UInt8} {bad : Bool} (h : Rdr e B T w g l bad) (hb : Below w.heap.size w w') : Rdr e B T w' g l bad := by
  obtain ⟨ao, n, cap, hh, hl, hn, hcap, hc, hB, hne⟩ := h
  exact ⟨ao, n, cap, (hb.block g (heap_lt hh)).trans hh, hl, hn, hcap, hc.mono hb (Nat.le_refl _), hB, hne⟩
/-- Another block is written. -/
theorem Rdr.other {e : TypeId} {B T : Nat} {w w' : World} {g g' : Nat} {l : List UInt8} {bad : Bool} (h : Rdr e B T w g l bad) (hg : w.grownBy w' (some g')) (h1 : g' < B ∨ T ≤ g') : Rdr e B T w' g l bad := by
  obtain ⟨ao, n, cap, hh, hl, hn, hcap, hc, hB, hne⟩ := h
  refine ⟨ao, n, cap, (hg.block g (heap_lt hh) (by simp; omega)).trans hh, hl, hn, hcap, hc.grown hg ?_, hB, hne⟩
  intro a ha
  have := hne a ha
  omega
theorem Rdr.ge {e : TypeId} {B T : Nat} {w : World} {g : Nat} {l : List UInt8} {bad : Bool} (h : Rdr e B T w g l bad) : B ≤ g ∧ g < T := by
  obtain ⟨_, _, _, _, _, _, _, _, hB, _⟩ := h; exact hB

set_option maxHeartbeats 400000 in
set_option maxRecDepth 100000 in
theorem fail_any (e0 : TypeId) (B T : Nat) (g : Nat) (hB : B ≤ g ∧ g < T) (cs : Array Value) (w : World) (hh : w.heap[g]? = some (.cells cs e0 (0, 0))) (hs : cs.size = 2) :
    Calls Try.prog 77 #[.pointer (some ⟨g, 0, none⟩)] w (fun e w' => e = .returned (.tuple #[]) ∧ Rdr e0 B T w' g [] true ∧ w.grownBy w' (some g)) := by
  obtain ⟨c0, c1, rfl⟩ : ∃ c0 c1, cs = #[c0, c1] := by
    obtain ⟨l⟩ := cs
    match l, hs with
    | [a, b], _ => exact ⟨a, b, rfl⟩
  have h0 := cell_of hh 0
  have h1 := cell_of hh 1
  have hf0 := free_of hh 0
  have hf1 := free_of hh 1
  have hb1 := set_of hh 0 (.slice none 0 0)
  have hb2 := set_of hb1 1 (.bool true)
  have HB := Lib.hid hb2
  clear hh hb1 hb2
  go_enter Try.func77, Try.ntmps77
  go_wp2
  go_end0
  exact ⟨rfl, ⟨none, 0, 0, HB.out, rfl, Nat.le_refl _, by omega, Cs.nil _ _, hB, fun _ h => by cases h⟩, grown_trans (grown_set _ _ _ _) (grown_set _ _ _ _)⟩

theorem rdr_set {e0 : TypeId} {B T : Nat} {w : World} {g n' cap' : Nat} {v0 : Value} {bad : Bool} {r : List UInt8} {ao' : Option Addr} (HH : w.heap[g]? = some (.cells #[v0, .bool bad] e0 (0, 0))) (hl : r.length = n') (hn : n' ≤ cap') (hcap : n' ≤ 140737488355328)
    (hc : Cs w ao' (bcells r)) (hB : B ≤ g ∧ g < T) (hne : ∀ a, ao' = some a → a.block ≠ g ∧ B ≤ a.block ∧ a.block < T) : Rdr e0 B T (w.setCell ⟨g, 0, none⟩ (.slice ao' n' cap')) g r bad :=
  ⟨ao', n', cap', set_of HH 0 _, hl, hn, hcap, hc.grown (grown_set _ _ _ _) (fun a ha => (hne a ha).1), hB, hne⟩

set_option maxHeartbeats 400000 in
set_option maxRecDepth 100000 in
theorem rnumo_any (e0 : TypeId) (B T : Nat) (g : Nat) (l : List UInt8) (bad : Bool) (w : World) (h : Rdr e0 B T w g l bad) :
    Calls Try.prog 62 #[.pointer (some ⟨g, 0, none⟩)] w (fun e w' => e = .returned (.int .u64 (rdN l)) ∧ Rdr e0 B T w' g (rdRest l) (bad || rdBad l) ∧ w.grownBy w' (some g)) := by
  obtain ⟨ao, n, cap, hh, hl, hn, hcap, hc, HB, hne⟩ := h
  have h0 := cell_of hh 0
  have h1 := cell_of hh 1
  have hf0 := free_of hh 0
  have hf1 := free_of hh 1
  have HH := Lib.hid hh
  clear hh
  simp at h0 h1
  match l, hl, hc with
  | [], hl, hc =>
    obtain rfl : n = 0 := by simpa using hl.symm
    obtain ⟨e1, e2, e3⟩ := rd_of_none (l := []) rfl
    rw [e1, e2, e3]
    go_enter Try.func62, Try.ntmps62
    go_wp2_with (first | (at_make; refine Stop.un ?_) | (at_builtin; refine Stop.un ?_))
    refine (fail_any e0 B T g HB _ _ HH.out rfl).mono ?_
    rintro e w1 ⟨rfl, hr, hg⟩
    go_wp2_with (first | (at_make; refine Stop.un ?_) | (at_builtin; refine Stop.un ?_))
    go_ret
    exact ⟨rfl, by simpa using hr, hg⟩
  | c :: r, hl, hc =>
    simp at hl
    have hn1 : 1 ≤ n := by omega
    have Hl := Lib.hid hl
    clear hl
    obtain ⟨b, o, rfl⟩ := hc.addr (by simp [bcells])
    have hb := hne _ rfl
    have Hb := Lib.hid hb
    have Hcap := Lib.hid hcap
    clear hne hb hcap
    have hcell := hc.at (j := 0) (u := .int .u8 (c.toNat : Int)) (by simp [bcells])
    rw [Nat.add_zero] at hcell
    by_cases hlt : c.toNat < 248
    · have hlt' : (c.toNat : Int) < 248 := by omega
      obtain ⟨e1, e2, e3⟩ := rd_of_some (l := c :: r) (n := c.toNat) (r := r) (by simp [tnum, hlt])
      rw [e1, e2, e3]
      clear e1 e2 e3 hlt
      have hC := c.toNat_lt
      generalize c.toNat = C at hcell hlt' hC
      go_enter Try.func62, Try.ntmps62
      go_wp2_with (first | (at_make; refine Stop.un ?_) | (at_builtin; refine Stop.un ?_))
      all_goals go_ret
      · have hr0 : r = [] := by have := Hl.out; exact List.eq_nil_of_length_eq_zero (by omega)
        subst hr0
        exact ⟨rfl, rdr_set HH.out (by have := Hl.out; simp at this ⊢; omega) (by omega) (by omega) (Cs.nil _ _) HB (fun a h => by cases h; exact Hb.out), grown_set _ _ _ _⟩
      · exact ⟨rfl, rdr_set HH.out (by have := Hl.out; omega) (by omega) (by have := Hcap.out; omega) (hc.drop 1) HB (fun a h => by cases h; exact Hb.out), grown_set _ _ _ _⟩
    · have hge : (248 : Int) ≤ (c.toNat : Int) := by omega
      have hC := c.toNat_lt
      by_cases hlen : r.length < c.toNat - 247
      · obtain ⟨e1, e2, e3⟩ := rd_of_none (l := c :: r) (by simp [tnum, hlt, hlen])
        rw [e1, e2, e3]
        clear e1 e2 e3 hlt
        have hle : (n : Int) ≤ (c.toNat : Int) - 247 := by have := Hl.out; omega
        generalize c.toNat = C at hcell hge hC hle
        clear hlen
        go_enter Try.func62, Try.ntmps62
        go_wp2_with (first | (at_make; refine Stop.un ?_) | (at_builtin; refine Stop.un ?_))
        refine (fail_any e0 B T g HB _ _ HH.out rfl).mono ?_
        rintro e w1 ⟨rfl, hr, hg⟩
        go_wp2_with (first | (at_make; refine Stop.un ?_) | (at_builtin; refine Stop.un ?_))
        go_ret
        exact ⟨rfl, by simpa using hr, hg⟩
      · obtain ⟨k, hk⟩ : ∃ k, c.toNat = k + 247 := ⟨c.toNat - 247, by omega⟩
        have hk1 : 1 ≤ k := by omega
        have hk8 : k ≤ 8 := by omega
        have hlen' : k + 1 ≤ n := by have := Hl.out; omega
        have hcap1 : ¬ cap = 1 := by omega
        have HK := Lib.hid hk
        rw [hk] at hcell
        clear hge hlen hlt hk hC
        go_enter Try.func62, Try.ntmps62
        go_wp2_with (first | (at_make; refine Stop.un ?_) | (at_builtin; refine Stop.un ?_))
        go_loop [5, 57] (fun x c => ∃ j N : Nat, j ≤ k ∧ c = .int .i64 (j : Int) ∧ x = .int .u64 (N : Int) ∧ Hid (N = val (r.take j))) (fun _ c => k - (intOf c).toNat)
        case atStart => exact ⟨0, 0, by omega, rfl, rfl, Lib.hid rfl⟩
        case round =>
          obtain ⟨j, N, hj, rfl, rfl, hN⟩ := hrel
          by_cases hjk : j < k
          · have hN2 : N ≤ 72057594037927935 := by
              have := val_lt (r.take j)
              rw [hN.out]
              have h2 : (r.take j).length ≤ 7 := by rw [List.length_take]; omega
              have h3 : 256 ^ (r.take j).length ≤ 256 ^ 7 := Nat.pow_le_pow_right (by omega) h2
              omega
            have hjr : j < r.length := by have := Hl.out; omega
            have hcj := hc.at (j := 1 + j) (u := .int .u8 (r[j].toNat : Int)) (by simp [bcells, Nat.add_comm 1 j, hjr])
            have hr8 : r[j].toNat < 256 := r[j].toNat_lt
            have HR := Lib.hid (val_snoc (r.take j) r[j])
            have HT := Lib.hid (List.take_succ_eq_append_getElem hjr)
            rw [← Nat.add_assoc] at hcj
            generalize r[j].toNat = z at hcj hr8 HR
            have Hjr := Lib.hid hjr
            go_wp2
            go_round
            case rel =>
              refine ⟨j + 1, N * 256 + z, by omega, by go_num, ?_, Lib.hid ?_⟩
              · rw [or_byte N z hN2 hr8]
              · rw [HT.out, HR.out, ← hN.out]
            case measure => simp [intOf]; omega
          · obtain rfl : j = k := by omega
            clear hjk
            have hNlt : N < 18446744073709551616 := by
              have := val_lt (r.take j)
              rw [hN.out]
              have h2 : (r.take j).length ≤ 8 := by rw [List.length_take]; omega
              have h3 : 256 ^ (r.take j).length ≤ 256 ^ 8 := Nat.pow_le_pow_right (by omega) h2
              omega
            by_cases hN8 : N < 248
            · obtain ⟨e1, e2, e3⟩ := rd_of_none (l := c :: r) (by
                have e := HK.out
                have e2 := hN.out
                have := Hl.out
                simp only [tnum, e, show j + 247 - 247 = j by omega, ← e2, if_neg (show ¬ j + 247 < 248 by omega), if_neg (show ¬ r.length < j by omega)]
                rw [if_pos (.inl hN8)])
              have E := Lib.hid (And.intro e1 (And.intro e2 e3))
              clear e1 e2 e3 hNlt
              go_wp2_with (first | (at_make; refine Stop.un ?_) | (at_builtin; refine Stop.un ?_))
              refine (fail_any e0 B T g HB _ _ HH.out rfl).mono ?_
              rintro e w1 ⟨rfl, hr, hg⟩
              go_wp2_with (first | (at_make; refine Stop.un ?_) | (at_builtin; refine Stop.un ?_))
              go_ret
              obtain ⟨e1, e2, e3⟩ := E.out
              rw [e1, e2, e3]
              exact ⟨rfl, by simpa using hr, hg⟩
            · have hN9 : 248 ≤ N := by omega
              have HL := fun w => Try.bits_Len64 (N : Int) w (by omega) (by omega)
              rw [Int.toNat_natCast] at HL
              have hbl := bitLen_le64 N
              generalize hL : Lib.bitLen N = L at HL hbl
              have HL2 := Lib.hid HL; have HhL := Lib.hid hL
              clear HL hL hN8 hNlt
              by_cases hLj : L ≤ 8 * (j - 1)
              · obtain ⟨e1, e2, e3⟩ := rd_of_none (l := c :: r) (by
                  have e := HK.out
                  have e2 := hN.out
                  have e3 := HhL.out
                  have := Hl.out
                  simp only [tnum, e, show j + 247 - 247 = j by omega, ← e2, if_neg (show ¬ j + 247 < 248 by omega), if_neg (show ¬ r.length < j by omega)]
                  rw [if_pos (.inr (by rw [e3]; exact hLj))])
                have E := Lib.hid (And.intro e1 (And.intro e2 e3))
                clear e1 e2 e3
                have hLj' : (L : Int) ≤ 8 * ((j : Int) + 247 - 248 + 1 - 1) := by omega
                clear hLj
                go_wp2_with (first | (at_make; refine Stop.un ?_) | (at_builtin; refine Stop.un ?_))
                refine (HL2.out _).mono ?_
                rintro e w1 ⟨rfl, rfl⟩
                go_wp2_with (first | (at_make; refine Stop.un ?_) | (at_builtin; refine Stop.un ?_))
                refine (fail_any e0 B T g HB _ _ HH.out rfl).mono ?_
                rintro e w1 ⟨rfl, hr, hg⟩
                go_wp2_with (first | (at_make; refine Stop.un ?_) | (at_builtin; refine Stop.un ?_))
                go_ret
                obtain ⟨e1, e2, e3⟩ := E.out
                rw [e1, e2, e3]
                exact ⟨rfl, by simpa using hr, hg⟩
              · obtain ⟨e1, e2, e3⟩ := rd_of_some (l := c :: r) (n := N) (r := r.drop j) (by
                  have e := HK.out
                  have e2 := hN.out
                  have e3 := HhL.out
                  have := Hl.out
                  simp only [tnum, e, show j + 247 - 247 = j by omega, ← e2, if_neg (show ¬ j + 247 < 248 by omega), if_neg (show ¬ r.length < j by omega)]
                  rw [if_neg (by rw [e3]; omega)])
                have E := Lib.hid (And.intro e1 (And.intro e2 e3))
                clear e1 e2 e3
                have hLj' : 8 * ((j : Int) + 247 - 248 + 1 - 1) < (L : Int) := by omega
                clear hLj
                go_wp2_with (first | (at_make; refine Stop.un ?_) | (at_builtin; refine Stop.un ?_))
                refine (HL2.out _).mono ?_
                rintro e w1 ⟨rfl, rfl⟩
                go_wp2_with (first | (at_make; refine Stop.un ?_) | (at_builtin; refine Stop.un ?_))
                all_goals go_ret
                all_goals (obtain ⟨e1, e2, e3⟩ := E.out; rw [e1, e2, e3, Bool.or_false])
                · have hr0 : r.drop j = [] := List.drop_eq_nil_of_le (by have := Hl.out; omega)
                  rw [hr0]
                  exact ⟨rfl, rdr_set HH.out (by have := Hl.out; simp; omega) (by omega) (by omega) (Cs.nil _ _) HB (fun a h => by cases h; exact Hb.out), grown_set _ _ _ _⟩
                · have hd := hc.drop (j + 1)
                  rw [show (bcells (c :: r)).drop (j + 1) = bcells (r.drop j) from by simp [bcells]] at hd
                  exact ⟨rfl, rdr_set HH.out (by have := Hl.out; rw [List.length_drop]; omega) (by omega) (by have := Hcap.out; omega) hd HB (fun a h => by cases h; exact Hb.out), grown_set _ _ _ _⟩
set_option maxHeartbeats 400000 in
set_option maxRecDepth 100000 in
theorem rbado_any (e0 : TypeId) (B T : Nat) (g : Nat) (l : List UInt8) (bad : Bool) (w : World) (h : Rdr e0 B T w g l bad) :
    Calls Try.prog 60 #[.pointer (some ⟨g, 0, none⟩)] w (fun e w' => e = .returned (.bool bad) ∧ w = w') := by
  obtain ⟨ao, n, cap, hh, -⟩ := h
  have h1 := cell_of hh 1
  simp at h1
  clear hh
  go_enter Try.func60, Try.ntmps60
  go_wp2
  go_ret
  exact ⟨rfl, rfl⟩

set_option maxHeartbeats 400000 in
set_option maxRecDepth 100000 in
theorem rlefto_any (e0 : TypeId) (B T : Nat) (g : Nat) (l : List UInt8) (bad : Bool) (w : World) (h : Rdr e0 B T w g l bad) :
    Calls Try.prog 61 #[.pointer (some ⟨g, 0, none⟩)] w (fun e w' => e = .returned (.int .i64 l.length) ∧ w = w') := by
  obtain ⟨ao, n, cap, hh, hl, -⟩ := h
  have h0 := cell_of hh 0
  simp at h0
  have Hl := Lib.hid hl
  clear hh hl
  go_enter Try.func61, Try.ntmps61
  go_wp2
  go_ret
  rw [Hl.out]
  exact ⟨rfl, rfl⟩

def endE (l : List UInt8) (bad : Bool) : Int := if bad || !l.isEmpty then 6 else 0

set_option maxHeartbeats 400000 in
set_option maxRecDepth 100000 in
theorem rendo_any (e0 : TypeId) (B T : Nat) (g : Nat) (l : List UInt8) (bad : Bool) (w : World) (h : Rdr e0 B T w g l bad) :
    Calls Try.prog 43 #[.pointer (some ⟨g, 0, none⟩)] w (fun e w' => e = .returned (.int .i64 (endE l bad)) ∧ w = w') := by
  have c1 := Lib.hid (rbado_any e0 B T g l bad w h)
  have c2 := Lib.hid (rlefto_any e0 B T g l bad w h)
  clear h
  cases bad with
  | true =>
    go_enter Try.func43, Try.ntmps43
    go_wp2_with (first | (at_make; refine Stop.un ?_) | (at_builtin; refine Stop.un ?_))
    refine (c1.out).mono ?_
    rintro e w1 ⟨rfl, rfl⟩
    go_wp2_with (first | (at_make; refine Stop.un ?_) | (at_builtin; refine Stop.un ?_))
    go_ret
    exact ⟨rfl, rfl⟩
  | false =>
    cases l with
    | nil =>
      simp only [List.length_nil] at c2
      go_enter Try.func43, Try.ntmps43
      go_wp2_with (first | (at_make; refine Stop.un ?_) | (at_builtin; refine Stop.un ?_))
      refine (c1.out).mono ?_
      rintro e w1 ⟨rfl, rfl⟩
      go_wp2_with (first | (at_make; refine Stop.un ?_) | (at_builtin; refine Stop.un ?_))
      refine (c2.out).mono ?_
      rintro e w1 ⟨rfl, rfl⟩
      go_wp2_with (first | (at_make; refine Stop.un ?_) | (at_builtin; refine Stop.un ?_))
      go_ret
      exact ⟨rfl, rfl⟩
    | cons c r =>
      have hp : (0 : Int) < ((c :: r).length : Int) := by rw [List.length_cons]; omega
      have he : endE (c :: r) false = 6 := rfl
      rw [he]
      generalize (c :: r).length = n at c2 hp
      go_enter Try.func43, Try.ntmps43
      go_wp2_with (first | (at_make; refine Stop.un ?_) | (at_builtin; refine Stop.un ?_))
      refine (c1.out).mono ?_
      rintro e w1 ⟨rfl, rfl⟩
      go_wp2_with (first | (at_make; refine Stop.un ?_) | (at_builtin; refine Stop.un ?_))
      refine (c2.out).mono ?_
      rintro e w1 ⟨rfl, rfl⟩
      go_wp2_with (first | (at_make; refine Stop.un ?_) | (at_builtin; refine Stop.un ?_))
      go_ret
      exact ⟨rfl, rfl⟩

set_option maxHeartbeats 400000 in
set_option maxRecDepth 100000 in
theorem rinto_any (e0 : TypeId) (B T : Nat) (g : Nat) (l : List UInt8) (bad : Bool) (w : World) (h : Rdr e0 B T w g l bad) :
    Calls Try.prog 42 #[.pointer (some ⟨g, 0, none⟩)] w (fun e w' => e = .returned (.int .i64 (zag (rdN l))) ∧ Rdr e0 B T w' g (rdRest l) (bad || rdBad l) ∧ w.grownBy w' (some g)) := by
  have c1 := Lib.hid (rnumo_any e0 B T g l bad w h)
  have hN := rdN_lt l
  clear h
  generalize rdN l = N at c1 hN
  go_enter Try.func42, Try.ntmps42
  go_wp2_with (first | (at_make; refine Stop.un ?_) | (at_builtin; refine Stop.un ?_))
  refine (c1.out).mono ?_
  rintro e w1 ⟨rfl, hr, hg⟩
  have HN := Lib.hid hN
  clear hN
  go_wp2
  go_ret
  rw [← zag_xor N HN.out]
  exact ⟨rfl, hr, hg⟩
set_option maxHeartbeats 400000 in
set_option maxRecDepth 100000 in
theorem newo_any (ao : Option Addr) (m cap : Nat) (bs : List UInt8) (w : World) (hc : Cs w ao (bcells bs)) (hm : bs.length = m) (hl : m ≤ 140737488355328) :
    Calls Try.prog 41 #[.slice ao m cap] w (fun e w' => ∃ g, e = .returned (.pointer (some ⟨g, 0, none⟩)) ∧ w.heap.size ≤ g ∧ Rdr 77 w.heap.size w'.heap.size w' g bs false ∧ Below w.heap.size w w') := by
  have Hm := Lib.hid hm; clear hm
  go_enter Try.func41, Try.ntmps41
  go_wp2_with (first | (at_make; refine Stop.un ?_) | (at_builtin; refine Stop.un ?_))
  have hO : OwnB w w (.slice none 0 0) 0 [] := Own.nil _ _ (Below.refl _ _)
  refine Stop.mk (app_bs w _ _ rfl rfl hO rfl rfl Hm.out hc (by omega) ?_)
  intro ao2 cap2 w2 hO2
  simp only [Nat.zero_add, List.nil_append] at hO2
  clear hO hc
  go_wp2_with (first | (at_make; refine Stop.un ?_) | (at_builtin; refine Stop.un ?_))
  go_ret
  have hlt := Own.lt hO2
  have hge := Own.ge hO2
  have hb := Own.below hO2
  have hs : w.heap.size ≤ w2.heap.size := hb.size
  refine ⟨w2.heap.size, rfl, hs, ⟨ao2, m, cap2, ?_, Hm.out, (owns_le hO2.1), hl, (Own.cs hO2).alloc _, ⟨hs, ?_⟩, ?_⟩, hb.alloc hb.size _⟩
  · exact _root_.Go.heap_alloc_new w2 _
  · simp
  · intro a ha
    have h1 := hlt a.block (by subst ha; rfl)
    have h2 := hge a.block (by subst ha; rfl)
    refine ⟨by omega, h2, ?_⟩
    simp; omega
end Go.Proofs.Ytdpmaocbfmgmlaa
