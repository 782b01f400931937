/- Rows, one behind the other: Grow, Concat. -/
import Derived.Test.YtoggjieagnlneaaOOwn
import Derived.Lib.AppendZeros
set_option linter.unusedVariables false
set_option linter.unusedSimpArgs false
namespace Go.Proofs.Ytoggjieagnlneaa
open Go.RowKit
def OwnRs (w0 w : World) (v : Value) (n : Nat) (rows : List Rw) : Prop := Own w0 w 23 1 v n (rwcells rows)
theorem OwnRs.length {w0 w : World} {v : Value} {n : Nat} {l : List Rw} (h : OwnRs w0 w v n l) : l.length = n := by
  have := Own.length h; simpa [rwcells_length] using this
/-- append of rows, onto rows of the call's own. -/
theorem app_rws {w : World} {ops : Array Oper} {rest : List Oper} {o : Oper} {a : Act} {Q : Exit → Act → World → Prop} (w0 : World) (s x : Operand)
    (hgd : Region.wanted o (yielded ops a.tmps) = true) (ho : o.op = .call { callee := .builtin .append, args := #[s, x], argTypes := #[26, 26] })
    {v : Value} {n : Nat} {l : List Rw} (hown : OwnRs w0 w v n l) (hs : a.eval s = v)
    {ao : Option Addr} {m cap : Nat} {news : List Rw} (hx : a.eval x = .slice ao m cap) (hm : news.length = m) (hc : Cs w ao (rwcells news)) (hb : (n + m) * 24 ≤ 140737488355328)
    (h : ∀ ao cap w', OwnRs w0 w' (.slice ao (n + m) cap) (n + m) (l ++ news) → w.grownBy w' v.ownBlock → (∀ k, (Value.slice ao (n + m) cap).ownBlock = some k → v.ownBlock = some k ∨ w.heap.size ≤ k) → wpList Try.prog ops Q rest (a.put o.dst (.slice ao (n + m) cap)) w') :
    wpList Try.prog ops Q (o :: rest) a w :=
  wpList_append_Own w0 23 (.slice none 0 0) 1 24 Try.infoRow rfl (by decide) s x 26 26 Try.underlying26 hgd ho v n (rwcells l) hown hs _ m (rwcells news) hx
    (Src.ofCs Try.underlying26 hc (by rw [rwcells_length, hm]; omega) (rwcells_one _)) hb (by omega) (fun ao cap w' h1 h2 _ h4 => h ao cap w' (by rw [OwnRs, rwcells_append]; exact h1) h2 h4)
theorem rws_new (w : World) (r : Rw) (e : TypeId) : Cs (w.alloc (.cells #[.slice r.a r.n r.cap] e)) (some ⟨w.heap.size, 0, none⟩) (rwcells [r]) := by
  intro j u hj
  match j, hj with
  | 0, hj => simp [rwcells, Rw.sl] at hj; subst hj; exact ⟨_, _, rfl, by simp⟩
/-- append of one row. -/
theorem app_rw1 {w : World} {r : Rw} {e : TypeId} {ops : Array Oper} {rest : List Oper} {o : Oper} {a : Act} {Q : Exit → Act → World → Prop} (w0 : World) (s x : Operand)
    (hgd : Region.wanted o (yielded ops a.tmps) = true) (ho : o.op = .call { callee := .builtin .append, args := #[s, x], argTypes := #[26, 26] })
    {v : Value} {n : Nat} {l : List Rw} (hown : OwnRs w0 w v n l) (hs : a.eval s = v)
    (hx : a.eval x = .slice (some ⟨w.heap.size, 0, none⟩) 1 1) (hb : (n + 1) * 24 ≤ 140737488355328)
    (h : ∀ ao cap w', OwnRs w0 w' (.slice ao (n + 1) cap) (n + 1) (l ++ [r]) → w.grownBy w' v.ownBlock → (∀ k, (Value.slice ao (n + 1) cap).ownBlock = some k → v.ownBlock = some k ∨ w.heap.size ≤ k) → wpList Try.prog ops Q rest (a.put o.dst (.slice ao (n + 1) cap)) w') :
    wpList Try.prog ops Q (o :: rest) a (w.alloc (.cells #[.slice r.a r.n r.cap] e)) :=
  app_rws w0 s x hgd ho (Own.alloc hown _) hs hx rfl (rws_new w r e) hb
    (fun ao cap w' h2 h3 h4 => h ao cap w' h2 ⟨h3.os, h3.tape, h3.output, Nat.le_trans (by simp) h3.size, fun k hk hn => (h3.block k (by simp; omega) hn).trans (Below.heap_alloc _ _ _ hk)⟩
      (fun k hk => (h4 k hk).imp id (fun hh => by simp at hh; omega)))
set_option maxHeartbeats 1000000 in
theorem grow_any (n : Nat) (w : World) (hn : n ≤ 1000000) :
    Calls Try.prog 42 #[.slice none 0 0, .int .i64 (n : Int)] w (fun e w' => ∃ ao cap, e = .returned (.slice ao 0 cap) ∧ OwnRs w w' (.slice ao 0 cap) 0 []) := by
  by_cases h0 : n = 0
  · subst h0
    go_enter Try.func42, Try.ntmps42
    go_wp2_with (first | (at_make; refine Stop.un ?_) | (at_builtin; refine Stop.un ?_))
    go_ret
    exact ⟨none, 0, rfl, Own.nil _ _ (Below.refl _ _)⟩
  · have h1 : 0 < n := by omega
    obtain ⟨i, hi, hz, hsize, hby⟩ := info_parts Try.infoRow
    have hrun := Lib.run_append_nil_zeros (P := Try.prog) w 26 3 26 23 i (.slice none 0 0) .i64 .i64 Try.underlying26 Try.underlying3 hi hz n h1 (by omega) (by omega) (by rw [hby]; omega)
    have hge := grownCap_ge w n 0 23
    have hmx := grownCap_le_maxLen w n 0 23 (by unfold maxLen; omega)
    generalize grownCap w n 0 23 = C at hrun hge hmx
    have hmx2 := hmx
    unfold maxLen at hmx2
    have hown : OwnRs w (w.drew.alloc (.cells (Builtin.zeroCells (Value.slice none 0 0).cells n ++ Builtin.zeroCells (Value.slice none 0 0).cells (C - n)) 23)) (.slice (some ⟨w.heap.size, 0, none⟩) 0 C) 0 [] := by
      refine ⟨⟨rfl, .inr ⟨w.heap.size, C, _, rfl, Nat.le_refl _, _root_.Go.heap_alloc_new w.drew _, Nat.zero_le _, hmx, ?_, rfl⟩⟩, ((Below.refl _ _).drew).alloc (Nat.le_refl _) _⟩
      rw [Array.size_append, size_zeroCells, size_zeroCells]
      simp [Value.cells]
      omega
    have HRUN := Lib.hid hrun
    have HO := Lib.hid hown
    clear hrun hown hi hz hsize hby h0
    go_enter Try.func42, Try.ntmps42
    go_wp2_with (first | (at_make; refine Stop.un ?_) | (at_builtin; refine Stop.un ?_))
    refine Stop.mk (Lib.wpList_append_run _ rfl _ _ _ _ rfl _ _ rfl rfl _ _ HRUN.out ?_)
    go_wp2_with (first | (at_make; refine Stop.un ?_) | (at_builtin; refine Stop.un ?_))
    go_ret
    exact ⟨_, _, rfl, HO.out⟩
set_option maxRecDepth 100000 in
set_option maxHeartbeats 4000000 in
theorem concat_any (a1 : Option Addr) (n1 c1 : Nat) (r1 : List Rw) (a2 : Option Addr) (n2 c2 : Nat) (r2 : List Rw) (a3 : Option Addr) (n3 c3 : Nat) (r3 : List Rw) (g : Nat) (w : World)
    (h1 : Cs w a1 (rwcells r1)) (h2 : Cs w a2 (rwcells r2)) (h3 : Cs w a3 (rwcells r3)) (l1 : r1.length = n1) (l2 : r2.length = n2) (l3 : r3.length = n3) (m1 : n1 ≤ 300000) (m2 : n2 ≤ 300000) (m3 : n3 ≤ 300000)
    (z : At w g #[.slice a1 n1 c1, .slice a2 n2 c2, .slice a3 n3 c3] 26) :
    Calls Try.prog 38 #[.slice (some ⟨g, 0, none⟩) 3 3] w (fun e w' => ∃ ao cap, e = .returned (.slice ao (n1 + n2 + n3) cap) ∧ OwnRs w w' (.slice ao (n1 + n2 + n3) cap) (n1 + n2 + n3) (r1 ++ r2 ++ r3)) := by
  have HL := Lib.hid (And.intro l1 (And.intro l2 l3))
  have x0 := z.cell 0 rfl
  have x1 := z.cell 1 rfl
  have x2 := z.cell 2 rfl
  have xl := z.lt
  clear l1 l2 l3
  go_enter Try.func38, Try.ntmps38
  go_wp2_with (first | (at_make; refine Stop.un ?_) | (at_builtin; refine Stop.un ?_))
  refine wp_loop_rounds 4 ?_
  rw [rounds_succ]
  go_wp2_with (first | (at_make; refine Stop.un ?_) | (at_builtin; refine Stop.un ?_))
  rw [rounds_succ]
  go_wp2_with (first | (at_make; refine Stop.un ?_) | (at_builtin; refine Stop.un ?_))
  rw [rounds_succ]
  go_wp2_with (first | (at_make; refine Stop.un ?_) | (at_builtin; refine Stop.un ?_))
  rw [rounds_succ]
  go_wp2_with (first | (at_make; refine Stop.un ?_) | (at_builtin; refine Stop.un ?_))
  clear x0 x1 x2 xl
  have hs : (n1 : Int) + n2 + n3 = ((n1 + n2 + n3 : Nat) : Int) := by omega
  rw [hs]
  clear hs
  refine (grow_any (n1 + n2 + n3) _ (by omega)).mono ?_
  rintro e w2 ⟨a4, c4, rfl, o4⟩
  have zz := z.mono (Own.below o4)
  have x0 := zz.cell 0 rfl
  have x1 := zz.cell 1 rfl
  have x2 := zz.cell 2 rfl
  have xl := zz.lt
  clear zz
  go_wp2_with (first | (at_make; refine Stop.un ?_) | (at_builtin; refine Stop.un ?_))
  refine wp_loop_rounds 4 ?_
  rw [rounds_succ]
  go_wp2_with (first | (at_make; refine Stop.un ?_) | (at_builtin; refine Stop.un ?_))
  refine Stop.mk (app_rws w _ _ rfl rfl o4 rfl rfl HL.out.1 (h1.mono (Own.below o4) (Nat.le_refl _)) (by omega) ?_)
  intro b0 d0 v0 p0 hg0 hk0
  clear xl x0 x1 x2 o4 hg0 hk0
  try simp only [Nat.zero_add, List.nil_append] at p0 ⊢
  have zz := z.mono (Own.below p0)
  have x0 := zz.cell 0 rfl
  have x1 := zz.cell 1 rfl
  have x2 := zz.cell 2 rfl
  have xl := zz.lt
  clear zz
  go_wp2_with (first | (at_make; refine Stop.un ?_) | (at_builtin; refine Stop.un ?_))
  rw [rounds_succ]
  go_wp2_with (first | (at_make; refine Stop.un ?_) | (at_builtin; refine Stop.un ?_))
  refine Stop.mk (app_rws w _ _ rfl rfl p0 rfl rfl HL.out.2.1 (h2.mono (Own.below p0) (Nat.le_refl _)) (by omega) ?_)
  intro b1 d1 v1 p1 hg1 hk1
  clear xl x0 x1 x2 p0 hg1 hk1
  try simp only [Nat.zero_add, List.nil_append] at p1 ⊢
  have zz := z.mono (Own.below p1)
  have x0 := zz.cell 0 rfl
  have x1 := zz.cell 1 rfl
  have x2 := zz.cell 2 rfl
  have xl := zz.lt
  clear zz
  go_wp2_with (first | (at_make; refine Stop.un ?_) | (at_builtin; refine Stop.un ?_))
  rw [rounds_succ]
  go_wp2_with (first | (at_make; refine Stop.un ?_) | (at_builtin; refine Stop.un ?_))
  refine Stop.mk (app_rws w _ _ rfl rfl p1 rfl rfl HL.out.2.2 (h3.mono (Own.below p1) (Nat.le_refl _)) (by omega) ?_)
  intro b2 d2 v2 p2 hg2 hk2
  clear xl x0 x1 x2 p1 hg2 hk2
  try simp only [Nat.zero_add, List.nil_append] at p2 ⊢
  have zz := z.mono (Own.below p2)
  have x0 := zz.cell 0 rfl
  have x1 := zz.cell 1 rfl
  have x2 := zz.cell 2 rfl
  have xl := zz.lt
  clear zz
  go_wp2_with (first | (at_make; refine Stop.un ?_) | (at_builtin; refine Stop.un ?_))
  rw [rounds_succ]
  go_wp2_with (first | (at_make; refine Stop.un ?_) | (at_builtin; refine Stop.un ?_))
  go_ret
  exact ⟨_, _, rfl, p2⟩
end Go.Proofs.Ytoggjieagnlneaa
