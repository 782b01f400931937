/- Rows in memory of their own. -/
import Derived.Test.YtbiniecjenencaaSrt
import Derived.Laws.Cover3
set_option linter.unusedVariables false
set_option linter.unusedSimpArgs false
set_option maxRecDepth 10000
namespace Go.Proofs.Ytbiniecjenencaa
open Go.RowKit
/-- append of values to a row, onto values of the call's own. -/
theorem app_rs {w : World} {ops : Array Oper} {rest : List Oper} {o : Oper} {a : Act} {Q : Exit → Act → World → Prop} (w0 : World) (s x : Operand)
    (hgd : Region.wanted o (yielded ops a.tmps) = true) (ho : o.op = .call { callee := .builtin .append, args := #[s, x], argTypes := #[36, 36] })
    {v : Value} {n : Nat} {l : List V} (hown : OwnV w0 w v n l) (hs : a.eval s = v)
    {ao : Option Addr} {m cap : Nat} {news : List V} (hx : a.eval x = .slice ao m cap) (hm : news.length = m) (hc : Cs w ao (vcells news)) (hb : (n + m) * 32 ≤ 140737488355328)
    (h : ∀ ao cap w', OwnV w0 w' (.slice ao (n + m) cap) (n + m) (l ++ news) → w.grownBy w' v.ownBlock → (∀ k, (Value.slice ao (n + m) cap).ownBlock = some k → v.ownBlock = some k ∨ w.heap.size ≤ k) → wpList Try.prog ops Q rest (a.put o.dst (.slice ao (n + m) cap)) w') :
    wpList Try.prog ops Q (o :: rest) a w :=
  wpList_append_Own w0 38 (.agg #[.int .u8 0, .int .i64 0, .string ⟨#[]⟩]) 3 32 Try.infoV rfl (by decide) s x 36 36 Try.underlying36 hgd ho v n (vcells l) hown hs _ m (vcells news) hx
    (Src.ofCs Try.underlying36 hc (by rw [vcells_length, hm]) (vcells_one _)) hb (by omega) (fun ao cap w' h1 h2 _ h4 => h ao cap w' (by rw [OwnV, vcells_append]; exact h1) h2 h4)
theorem exec_nilR {ρ : Operand → Value} {x y : Operand} {dst : Option Tmp} {T2 ty : TypeId} {pos : String} {af : Array Edge} {g : Option (Nat × Bool)} (ao : Option Addr) (n cap : Nat) (hx : ρ x = .slice ao n cap) (hy : ρ y = .slice none 0 0) (w : World) :
    (execOp ρ ⟨dst, .binOp .eql 36 x y T2, ty, pos, af, g⟩).run Try.prog w = .ok (.value (.bool ao.isNone)) w := by
  have u := Try.underlying36
  have e := run_equal_slice_nil (P := Try.prog) w 36 38 ao n cap u
  have hb : (binOp .eql 36 (.slice ao n cap) (.slice none 0 0)).run Try.prog w = .ok (.bool ao.isNone) w := by
    unfold binOp
    simp only [Sem.run_bind, e, Result.andThen, Sem.run_pure]
  simp [execOp, hx, hy, go_sem, hb]
set_option maxHeartbeats 1000000 in
theorem clone_any (r : Rw) (w : World) (h : RowOk w r) (hn : r.n ≤ 1000000) :
    Calls Try.prog 52 #[.slice r.a r.n r.cap] w (fun e w' => ∃ ao cap, e = .returned (.slice ao r.n cap) ∧ OwnV w w' (.slice ao r.n cap) r.n r.l) := by
  obtain ⟨a, n, cap, l⟩ := r
  obtain ⟨hcs, hlen, hle, hmax, hkind⟩ := h
  simp only at hcs hlen hle hmax hn ⊢
  cases a with
  | none =>
    have hl0 : vcells l = [] := cs_none hcs
    have hl1 : l = [] := by
      cases l with
      | nil => rfl
      | cons v l => simp [vcells] at hl0
    subst hl1
    have hn0 : n = 0 := by simpa using hlen.symm
    subst hn0
    clear hlen hcs hkind hl0
    go_enter Try.func52, Try.ntmps52
    go_wp2_with (first | (at_make; refine Stop.un ?_) | (at_builtin; refine Stop.un ?_) | (with_reducible refine Stop.eql 36 ?_) | (with_reducible refine Stop.neq 36 ?_))
    refine Stop.mk (wpList_as _ rfl (exec_nilR _ _ _ rfl rfl _) ?_)
    go_wp2_with (first | (at_make; refine Stop.un ?_) | (at_builtin; refine Stop.un ?_) | (with_reducible refine Stop.conv 22 9 ?_) | (with_reducible refine Stop.conv 9 22 ?_))
    go_ret
    exact ⟨none, 0, rfl, Own.nil _ _ (Below.refl _ _)⟩
  | some ad =>
    have HL := Lib.hid hlen
    clear hlen hkind
    go_enter Try.func52, Try.ntmps52
    go_wp2_with (first | (at_make; refine Stop.un ?_) | (at_builtin; refine Stop.un ?_) | (with_reducible refine Stop.eql 36 ?_) | (with_reducible refine Stop.neq 36 ?_))
    refine Stop.mk (wpList_as _ rfl (exec_nilR _ _ _ rfl rfl _) ?_)
    go_wp2_with (first | (at_make; refine Stop.un ?_) | (at_builtin; refine Stop.un ?_) | (with_reducible refine Stop.conv 22 9 ?_) | (with_reducible refine Stop.conv 9 22 ?_))
    have hO : OwnV w (w.alloc (.cells #[] 38)) (.slice (some ⟨w.heap.size, 0, none⟩) 0 0) 0 [] := Own.block (Below.refl _ _) rfl (by decide)
    refine Stop.mk (app_rs w _ _ rfl rfl hO rfl rfl HL.out (hcs.alloc _) (by omega) ?_)
    intro a4 c4 w4 hO4 hg4 hk4
    simp only [Nat.zero_add, List.nil_append] at hO4
    clear hO
    go_wp2_with (first | (at_make; refine Stop.un ?_) | (at_builtin; refine Stop.un ?_) | (with_reducible refine Stop.conv 22 9 ?_) | (with_reducible refine Stop.conv 9 22 ?_))
    go_ret
    exact ⟨_, _, by simp, hO4⟩
theorem own_at15 {w : World} {base e size n g : Nat} {xs : List Value} (h : w.ownsRow base e size (.slice (some ⟨g, 0, none⟩) n n) n xs) : At w g xs.toArray e := by
  rcases h.2 with ⟨h', _⟩ | ⟨g', cap', cur, h', _, hg, _, _, hcs, htake⟩
  · simp at h'
  · simp only [Value.slice.injEq, Option.some.injEq, Addr.mk.injEq, and_true, true_and] at h'
    obtain ⟨rfl, rfl⟩ := h'
    have e1 : cur.toList = xs := by rw [← htake]; exact (List.take_of_length_le (by simp [hcs])).symm
    unfold At
    rw [hg, ← e1]
/-- No row. -/
def nilRw : Rw := ⟨none, 0, 0, []⟩
theorem nilRw_ok (w : World) : RowOk w nilRw := ⟨Cs.nil _ _, rfl, Nat.le_refl _, Nat.zero_le _, fun _ h => by cases h⟩
/-- A row's memory may be written. -/
def Fz (w : World) (r : Rw) : Prop := ∀ a, r.a = some a → ∃ g cs e, a = ⟨g, 0, none⟩ ∧ w.heap[g]? = some (.cells cs e (0, 0)) ∧ r.n * 3 ≤ cs.size
theorem Fz.mono {w x : World} {r : Rw} (h : Fz w r) (hb : Below w.heap.size w x) : Fz x r := fun a ha => by
  obtain ⟨g, cs, e, e1, e2, e3⟩ := h a ha
  exact ⟨g, cs, e, e1, (hb.block g (Array.getElem?_eq_some_iff.1 e2).1).trans e2, e3⟩
theorem Fz.rx {B g0 : Nat} {w x : World} {r : Rw} (h : Fz w r) (hx : RX B (some g0) w x) (had : ∀ a, r.a = some a → a.block < B ∧ a.block ≠ g0) : Fz x r := fun a ha => by
  obtain ⟨g, cs, e, e1, e2, e3⟩ := h a ha
  have h1 := had a ha
  subst e1
  exact ⟨g, cs, e, rfl, (hx.block g h1.1 (by simp; exact h1.2)).trans e2, e3⟩
theorem Fz.own {w0 w : World} {a : Option Addr} {n c : Nat} {l k : List V} (h : OwnV w0 w (.slice a n c) n l) : Fz w ⟨a, n, c, k⟩ := by
  intro q hq
  simp only at hq
  subst hq
  rcases h.1.2 with ⟨h', _⟩ | ⟨g', cap', cur, h', _, hg, hn, _, hcs, _⟩
  · simp at h'
  · simp only [Value.slice.injEq, Option.some.injEq] at h'
    obtain ⟨rfl, -, rfl⟩ := h'
    exact ⟨g', cur, _, rfl, hg, by simp only; omega⟩
/-- Rows of the call's own, each in memory of its own. -/
structure Own2 (w w' : World) (g : Nat) (rs : List Rw) : Prop where
  at_ : At w' g (rwcells rs).toArray 36
  ge : w.heap.size ≤ g
  below : Below w.heap.size w w'
  ok : ∀ r ∈ rs, RowOk w' r ∧ ∀ a, r.a = some a → w.heap.size ≤ a.block ∧ a.block < w'.heap.size ∧ a.block ≠ g
  fz : ∀ r ∈ rs, Fz w' r
theorem Try.infoRow : (Try.prog.info? 36).map (fun i => (i.zero, i.size, i.bytes)) = some (some (.slice none 0 0), 1, 24) := by kernel_rfl
set_option maxRecDepth 100000 in
set_option maxHeartbeats 4000000 in
theorem own_any (ao : Option Addr) (n cap : Nat) (rows : List Rw) (w : World) (h : Tab w ao rows) (hn : rows.length = n) (hnc : n ≤ cap) (hcap : cap ≤ maxLen) (hn2 : n ≤ 1000000) (hr : ∀ r ∈ rows, r.n ≤ 1000000) :
    Calls Try.prog 39 #[.slice ao n cap] w (fun e w' => ∃ g rs, e = .returned (.slice (some ⟨g, 0, none⟩) n n) ∧ Own2 w w' g rs ∧ rs.map (·.l) = rows.map (·.l)) := by
  unfold maxLen at hcap
  have HN := Lib.hid hn
  have HR := Lib.hid hr
  clear hn hr
  obtain ⟨i0, hi, hz0, hz1, hz2⟩ := info_parts Try.infoRow
  go_enter Try.func39, Try.ntmps39
  go_wp2_with (first | (at_make; refine Stop.un ?_) | (at_builtin; refine Stop.un ?_) | (with_reducible refine Stop.conv 22 9 ?_) | (with_reducible refine Stop.conv 9 22 ?_))
  refine Stop.mk (wpList_make_full _ rfl _ _ 23 rfl w.heap.size 36 i0 (.slice none 0 0) 1 Try.underlying23 hi hz0 hz1 _ _ _ _ n rfl rfl rfl rfl (by rw [hz2]; omega) (by unfold maxLen; omega) (Nat.le_refl _) ?_)
  intro w7 o7 g7
  have b7 : Below w.heap.size w w7 := (Below.refl _ _).grown g7 (Nat.le_refl _) (fun _ h => by cases h)
  have k7 : At w7 w.heap.size (madeCells (Value.slice none 0 0).cells (n * 1)).toList.toArray 36 := own_at15 o7
  rw [show (madeCells (Value.slice none 0 0).cells (n * 1)).toList = rwcells (List.replicate n nilRw) from by simp [rwcells, nilRw, Rw.sl, Value.cells, toList_madeCells_one]] at k7
  clear o7 g7 hz2 hz1 hz0 hi i0
  go_wp2_with (first | (at_make; refine Stop.un ?_) | (at_builtin; refine Stop.un ?_) | (with_reducible refine Stop.conv 22 9 ?_) | (with_reducible refine Stop.conv 9 22 ?_))
  go_loopw [11] (fun i wr => ∃ (j : Nat) (rs : List Rw), j ≤ n ∧ i = .int .i64 (j : Int) ∧ At wr w.heap.size (rwcells (rs ++ List.replicate (n - j) nilRw)).toArray 36 ∧ Below w.heap.size w wr ∧ Hid (rs.length = j ∧ rs.map (·.l) = (rows.take j).map (·.l)) ∧ Hid (∀ r ∈ rs, RowOk wr r ∧ ∀ a, r.a = some a → w.heap.size ≤ a.block ∧ a.block < wr.heap.size ∧ a.block ≠ w.heap.size) ∧ Hid (∀ r ∈ rs, Fz wr r)) (fun i _ => n - (intOf i).toNat)
  case atStart => exact ⟨0, [], Nat.zero_le _, rfl, k7, b7, Lib.hid ⟨rfl, rfl⟩, Lib.hid (fun _ h => by cases h), Lib.hid (fun _ h => by cases h)⟩
  case round =>
    clear k7 b7
    obtain ⟨j, rs, hj, rfl, z, BB, HL, HO, HZ⟩ := hrel
    by_cases hlt : j < n
    · have hjl : j < rows.length := by have := HN.out; omega
      have t2 := h.mono BB
      obtain ⟨b, o, rfl⟩ := t2.cs.addr (by rw [rwcells_length]; omega)
      have x0 := t2.at hjl
      have rk := t2.ok rows[j] (List.getElem_mem _)
      have hrn := HR.out rows[j] (List.getElem_mem _)
      have ht : rows.take (j + 1) = rows.take j ++ [rows[j]] := List.take_succ_eq_append_getElem hjl
      have hrep : List.replicate (n - j) nilRw = nilRw :: List.replicate (n - (j + 1)) nilRw := by rw [show n - j = (n - (j + 1)) + 1 by omega, List.replicate_succ]
      generalize rows[j] = r at x0 rk hrn ht
      have HT := Lib.hid ht
      have HRP := Lib.hid hrep
      clear ht hrep hjl t2
      go_wp2_with (first | (at_make; refine Stop.un ?_) | (at_builtin; refine Stop.un ?_) | (with_reducible refine Stop.conv 22 9 ?_) | (with_reducible refine Stop.conv 9 22 ?_))
      refine (clone_any r _ rk hrn).mono ?_
      rintro e w3 ⟨a3, c3, rfl, o3⟩
      have bt := Own.below o3
      have hge := Own.ge o3
      have hlt3 := Own.lt o3
      have cs3 := Own.cs o3
      have le3 := owns_le o3.1
      have mx3 := owns_max o3.1
      have fz3 : Fz w3 ⟨a3, r.n, c3, r.l⟩ := Fz.own o3
      have hw0 := BB.size
      have hzl := z.lt
      replace z := z.mono bt
      replace BB := BB.next bt
      have f0 := z.free j
      have hjr : (rwcells (rs ++ List.replicate (n - j) nilRw)).toArray[j]? = some (.slice none 0 0) := by
        rw [HRP.out]
        have hl := HL.out.1
        simp [rwcells, List.getElem?_append_right, hl, nilRw, Rw.sl]
      have x3 := z.cell j hjr
      have zl := z.lt
      clear o3 x0 hjr
      go_wp2_with (first | (at_make; refine Stop.un ?_) | (at_builtin; refine Stop.un ?_) | (with_reducible refine Stop.conv 22 9 ?_) | (with_reducible refine Stop.conv 9 22 ?_))
      have z2 : At (w3.setCell ⟨w.heap.size, j, none⟩ (.slice a3 r.n c3)) w.heap.size (rwcells ((rs ++ [⟨a3, r.n, c3, r.l⟩]) ++ List.replicate (n - (j + 1)) nilRw)).toArray 36 := by
        have hs := z.set j (.slice a3 r.n c3)
        rw [HRP.out] at hs
        have hl := HL.out.1
        rwa [show (rwcells (rs ++ nilRw :: List.replicate (n - (j + 1)) nilRw)).toArray.setIfInBounds j (.slice a3 r.n c3) = (rwcells ((rs ++ [⟨a3, r.n, c3, r.l⟩]) ++ List.replicate (n - (j + 1)) nilRw)).toArray by
          subst hl
          simp [rwcells, Rw.sl, List.set_append_right]] at hs
      have b2 := BB.setCell (p := ⟨w.heap.size, j, none⟩) (Nat.le_refl _) (.slice a3 r.n c3)
      have hx : RX w3.heap.size (some w.heap.size) w3 (w3.setCell ⟨w.heap.size, j, none⟩ (.slice a3 r.n c3)) := RX.set w3 ⟨w.heap.size, j, none⟩ _ (.inr rfl)
      have HO2 : Hid (∀ q ∈ rs ++ [⟨a3, r.n, c3, r.l⟩], RowOk (w3.setCell ⟨w.heap.size, j, none⟩ (.slice a3 r.n c3)) q ∧ ∀ a, q.a = some a → w.heap.size ≤ a.block ∧ a.block < (w3.setCell ⟨w.heap.size, j, none⟩ (.slice a3 r.n c3)).heap.size ∧ a.block ≠ w.heap.size) := Lib.hid (fun q hq => by
        have hsz : (w3.setCell ⟨w.heap.size, j, none⟩ (.slice a3 r.n c3)).heap.size = w3.heap.size := by simp [World.setCell]
        rw [hsz]
        rcases List.mem_append.1 hq with hq | hq
        · obtain ⟨o1, o2⟩ := HO.out q hq
          have o3 : ∀ a, q.a = some a → a.block < w3.heap.size ∧ a.block ≠ w.heap.size := fun a ha => ⟨Nat.lt_of_lt_of_le (o2 a ha).2.1 bt.size, (o2 a ha).2.2⟩
          exact ⟨(o1.mono bt).rx hx o3, fun a ha => ⟨(o2 a ha).1, (o3 a ha).1, (o3 a ha).2⟩⟩
        · rw [List.mem_singleton.1 hq]
          have o3 : ∀ a, a3 = some a → a.block < w3.heap.size ∧ a.block ≠ w.heap.size := fun a ha => by
            have h1 := hge a.block (by subst ha; rfl)
            have h2 := hlt3 a.block (by subst ha; rfl)
            omega
          exact ⟨RowOk.rx (r := ⟨a3, r.n, c3, r.l⟩) hx ⟨cs3, rk.len, le3, mx3, rk.kind⟩ o3, fun a ha => ⟨by have h1 := hge a.block (by subst ha; rfl); omega, (o3 a ha).1, (o3 a ha).2⟩⟩)
      have HZ2 : Hid (∀ q ∈ rs ++ [⟨a3, r.n, c3, r.l⟩], Fz (w3.setCell ⟨w.heap.size, j, none⟩ (.slice a3 r.n c3)) q) := Lib.hid (fun q hq => by
        rcases List.mem_append.1 hq with hq | hq
        · have o2 := (HO.out q hq).2
          exact ((HZ.out q hq).mono bt).rx hx (fun a ha => ⟨Nat.lt_of_lt_of_le (o2 a ha).2.1 bt.size, (o2 a ha).2.2⟩)
        · rw [List.mem_singleton.1 hq]
          exact fz3.rx hx (fun a ha => by
            have ha2 : a3 = some a := ha
            have h1 := hge a.block (by rw [ha2]; rfl)
            have h2 := hlt3 a.block (by rw [ha2]; rfl)
            omega))
      have HL2 : Hid ((rs ++ [(⟨a3, r.n, c3, r.l⟩ : Rw)]).length = j + 1 ∧ (rs ++ [(⟨a3, r.n, c3, r.l⟩ : Rw)]).map (·.l) = (rows.take (j + 1)).map (·.l)) := Lib.hid ⟨by rw [List.length_append, HL.out.1]; rfl, by rw [HT.out, List.map_append, List.map_append, HL.out.2]; rfl⟩
      clear z BB f0 x3 cs3 hx HO HL bt rk HZ fz3
      generalize w3.setCell ⟨w.heap.size, j, none⟩ (.slice a3 r.n c3) = w9 at z2 b2 HO2 HZ2 ⊢
      go_roundw
      case rel => exact ⟨j + 1, _, by omega, by go_num, z2, b2, HL2, HO2, HZ2⟩
      case measure => simp [intOf]; omega
    · have hjn : j = n := by omega
      subst hjn
      have HL2 := HL.out
      rw [List.take_of_length_le (by rw [HN.out]; omega)] at HL2
      rw [Nat.sub_self, List.replicate_zero, List.append_nil] at z
      have HL3 := Lib.hid HL2.2
      clear HL HL2
      go_wp2_with (first | (at_make; refine Stop.un ?_) | (at_builtin; refine Stop.un ?_) | (with_reducible refine Stop.conv 22 9 ?_) | (with_reducible refine Stop.conv 9 22 ?_))
      go_ret
      exact ⟨_, rfl, rs, ⟨z, Nat.le_refl _, BB, HO.out, HZ.out⟩, HL3.out⟩
end Go.Proofs.Ytbiniecjenencaa
