/- Rows in memory of their own (the law's deep). -/
import Derived.Test.YtoggjieagnlneaaOOwn
import Derived.Test.YtoggjieagnlneaaOConcat
set_option linter.unusedVariables false
set_option linter.unusedSimpArgs false
namespace Go.Proofs.Ytoggjieagnlneaa
open Go.RowKit
theorem Cs.grown {w w' : World} {row : Option Nat} {ao : Option Addr} {xs : List Value} (h : Cs w ao xs) (g : w.grownBy w' row) (hr : ∀ a, ao = some a → a.block < w.heap.size ∧ row ≠ some a.block) : Cs w' ao xs := by
  intro j u hj
  obtain ⟨b, o, e, hc⟩ := h j u hj
  have := hr _ e
  refine ⟨b, o, e, ?_⟩
  rw [World.cell?_of_block (a := ⟨b, o + j, none⟩) (g.block b this.1 (fun h => this.2 h.symm))]
  exact hc
/-- Rows that lie off a slice that grows. -/
def Off (w : World) (v : Value) (rs : List Rw) : Prop := ∀ r ∈ rs, RowOk w r ∧ ∀ a, r.a = some a → a.block < w.heap.size ∧ v.ownBlock ≠ some a.block
theorem Off.below {w w' : World} {v : Value} {rs : List Rw} (h : Off w v rs) (b : Below w.heap.size w w') : Off w' v rs := fun r hr =>
  ⟨(h r hr).1.mono b, fun a ha => ⟨by have := ((h r hr).2 a ha).1; have := b.size; omega, ((h r hr).2 a ha).2⟩⟩
theorem Off.grown {w w' : World} {v v' : Value} {rs : List Rw} (h : Off w v rs) (g : w.grownBy w' v.ownBlock) (hk : ∀ k, v'.ownBlock = some k → v.ownBlock = some k ∨ w.heap.size ≤ k) : Off w' v' rs := fun r hr => by
  obtain ⟨o, hb⟩ := h r hr
  refine ⟨⟨o.cs.grown g hb, o.len, o.le, o.max, o.kind⟩, fun a ha => ?_⟩
  have h1 := hb a ha
  have h2 := g.size
  refine ⟨by omega, fun e => ?_⟩
  rcases hk _ e with h3 | h3
  · exact h1.2 h3
  · omega
set_option maxRecDepth 100000 in
set_option maxHeartbeats 4000000 in
theorem deep_any (ao : Option Addr) (n cap : Nat) (rows : List Rw) (w : World) (t : Tab w ao rows) (hn : rows.length = n) (hnc : n ≤ cap) (hcap : cap ≤ maxLen) (hn2 : n ≤ 100000) (hr : ∀ r ∈ rows, r.n ≤ 1000000) :
    Calls Try.prog 19 #[.slice ao n cap] w (fun e w' => ∃ a c rs, e = .returned (.slice a n c) ∧ OwnRs w w' (.slice a n c) n rs ∧ (∀ r ∈ rs, RowOk w' r) ∧ rs.map (·.l) = rows.map (·.l)) := by
  unfold maxLen at hcap
  have HN := Lib.hid hn
  have HR := Lib.hid hr
  clear hn hr
  go_enter Try.func19, Try.ntmps19
  go_wp2_with (first | (at_make; refine Stop.un ?_) | (at_builtin; refine Stop.un ?_))
  go_loopw [8, 3] (fun i v wr => ∃ (j : Nat) (ab : Option Addr) (cb : Nat) (rs : List Rw), j ≤ n ∧ i = .int .i64 (j : Int) ∧ v = .slice ab j cb ∧ OwnRs w wr (.slice ab j cb) j rs ∧ Off wr (.slice ab j cb) rs ∧ Hid (rs.map (·.l) = (rows.take j).map (·.l))) (fun i _ _ => n - (intOf i).toNat)
  case atStart => exact ⟨0, none, 0, [], Nat.zero_le _, rfl, rfl, Own.nil _ _ (Below.refl _ _), (fun r hr => by cases hr), Lib.hid rfl⟩
  case round =>
    obtain ⟨j, ab, cb, rs, hj, rfl, rfl, O, F, HL⟩ := hrel
    by_cases hlt : j < n
    · have hjl : j < rows.length := by have := HN.out; omega
      have t2 := t.mono (Own.below O)
      obtain ⟨b, o, rfl⟩ := t2.cs.addr (by rw [rwcells_length]; omega)
      have x0 := t2.at hjl
      have rk := t2.ok rows[j] (List.getElem_mem _)
      have hrn := HR.out rows[j] (List.getElem_mem _)
      have ht : rows.take (j + 1) = rows.take j ++ [rows[j]] := List.take_succ_eq_append_getElem hjl
      generalize rows[j] = r at x0 rk hrn ht
      have HT := Lib.hid ht
      have hS : OwnV wr (wr.alloc (.cells #[] 32)) (.slice (some ⟨wr.heap.size, 0, none⟩) 0 0) 0 [] := Own.block (Below.refl _ _) rfl (by decide)
      have hcs := rk.cs.alloc (.cells #[] 32)
      have HRK := Lib.hid (And.intro rk.len rk.kind)
      clear ht hjl t2 rk
      go_wp2_with (first | (at_make; refine Stop.un ?_) | (at_builtin; refine Stop.un ?_))
      refine Stop.mk (app_rs wr _ _ rfl rfl hS rfl rfl HRK.out.1 hcs (by omega) ?_)
      intro a4 c4 w4 hO4 hg4 hk4
      simp only [Nat.zero_add, List.nil_append] at hO4 ⊢
      have bt := Own.below hO4
      have q0 : RowOk w4 ⟨a4, r.n, c4, r.l⟩ := ⟨Own.cs hO4, HRK.out.1, owns_le hO4.1, owns_max hO4.1, HRK.out.2⟩
      have F4 := F.below bt
      have O4 := Own.keep O bt
      have hq : ∀ a, (⟨a4, r.n, c4, r.l⟩ : Rw).a = some a → a.block < w4.heap.size ∧ (Value.slice ab j cb).ownBlock ≠ some a.block := fun a ha => by
        have ha2 : a4 = some a := ha
        have h1 := Own.ge hO4 a.block (by rw [ha2]; rfl)
        have h2 := Own.lt hO4 a.block (by rw [ha2]; rfl)
        exact ⟨h2, fun e => by have := Own.lt O _ e; omega⟩
      clear hS hcs hg4 hk4 O F x0 hO4 bt
      go_wp2_with (first | (at_make; refine Stop.un ?_) | (at_builtin; refine Stop.un ?_))
      refine Stop.mk (app_rw1 (r := ⟨a4, r.n, c4, r.l⟩) w _ _ rfl rfl O4 rfl rfl (by omega) ?_)
      intro a6 c6 w6 O6 g6 k6
      have F6 : Off w6 (.slice a6 (j + 1) c6) (rs ++ [⟨a4, r.n, c4, r.l⟩]) := Off.grown (v := .slice ab j cb) (fun x hx => by
        rcases List.mem_append.1 hx with hx | hx
        · exact F4 x hx
        · rw [List.mem_singleton.1 hx]; exact ⟨q0, hq⟩) g6 k6
      have HL2 : Hid ((rs ++ [(⟨a4, r.n, c4, r.l⟩ : Rw)]).map (·.l) = (rows.take (j + 1)).map (·.l)) := Lib.hid (by rw [List.map_append, HL.out, HT.out, List.map_append]; rfl)
      clear O4 g6 k6 F4 q0 hq HL HT HRK
      go_wp2_with (first | (at_make; refine Stop.un ?_) | (at_builtin; refine Stop.un ?_))
      go_roundw
      case rel => exact ⟨j + 1, a6, c6, _, by omega, by go_num, rfl, O6, F6, HL2⟩
      case measure => simp [intOf]; omega
    · obtain rfl : j = n := by omega
      have HL2 : Hid (rs.map (·.l) = rows.map (·.l)) := Lib.hid (by rw [HL.out, List.take_of_length_le (by have := HN.out; omega)])
      have hok : ∀ r ∈ rs, RowOk wr r := fun r hr => (F r hr).1
      clear HL F
      go_wp2_with (first | (at_make; refine Stop.un ?_) | (at_builtin; refine Stop.un ?_))
      go_ret
      exact ⟨_, _, rfl, rs, O, hok, HL2.out⟩
end Go.Proofs.Ytoggjieagnlneaa
