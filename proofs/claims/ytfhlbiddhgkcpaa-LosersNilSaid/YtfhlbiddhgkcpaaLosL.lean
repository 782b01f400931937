/- Lists of rows; the first row of all is the least; the first of rows, and lists in memory of their own. -/
import Derived.Test.YtfhlbiddhgkcpaaLosV
import Derived.Test.YtfhlbiddhgkcpaaStb
set_option linter.unusedVariables false
set_option linter.unusedSimpArgs false
namespace Go.Proofs.Ytfhlbiddhgkcpaa
open Go.RowKit
section
variable {α : Type} (c : α → α → Int)
theorem sort_first (hneg : ∀ a b, c b a = - c a b) (htr : ∀ a b d, c a b ≤ 0 → c b d ≤ 0 → c a d ≤ 0) (A D : List α) (x : α) (hA : ∀ a ∈ A, 0 < c a x) (hD : ∀ d ∈ D, c x d ≤ 0) : sortB c (A ++ x :: D) = x :: sortB c (A ++ D) := by
  rw [sortB_app c hneg htr A (x :: D), show x :: D = [x] ++ D from rfl, sortB_app c hneg htr [x] D, sortB_app c hneg htr A D, sortB_one c [x] (Nat.le_refl _)]
  have h1 := mergeS_split c [x] [] [] (sortB c D) (fun a ha b hb => by
    rw [List.mem_singleton.1 ha]
    exact hD b ((sortB_perm c D).mem_iff.1 hb)) (fun b hb => by cases hb)
  rw [List.append_nil, List.nil_append, mergeS_nil, nil_mergeS] at h1
  rw [h1]
  have h2 := mergeS_split c [] [x] (sortB c A) (sortB c D) (fun a ha => by cases ha) (fun b hb a ha => by
    rw [List.mem_singleton.1 hb]
    exact hA a ((sortB_perm c A).mem_iff.1 ha))
  rw [List.nil_append, nil_mergeS] at h2
  exact h2
end
/-- The heads of lists. -/
def heads (L : List (List (List V))) : List (Option (List V)) := L.map List.head?
theorem gt_heads (L : List (List (List V))) (i : Nat) : gt (heads L) i = (L.getD i []).head? := by
  unfold gt heads
  rw [List.getD_eq_getElem?_getD, List.getD_eq_getElem?_getD, List.getElem?_map]
  cases L[i]? <;> rfl
theorem merge_first (ks : List Ky) (L : List (List (List V))) (hL : ∀ l ∈ L, Asc (fun a b => cmpR a b ks) l) (i : Nat) (hn : nxt ks (heads L) = some i) :
    ∃ x tl, L[i]? = some (x :: tl) ∧ sortL ks L.flatten = x :: sortL ks (L.set i tl).flatten := by
  have hneg : ∀ a b : List V, cmpR b a ks = - cmpR a b ks := fun a b => cmpR_neg a b ks
  have htr : ∀ a b d : List V, cmpR a b ks ≤ 0 → cmpR b d ks ≤ 0 → cmpR a d ks ≤ 0 := fun a b d h1 h2 => by
    have := cmpR_tri a b d ks
    unfold Tri at this
    omega
  obtain ⟨h1, h2, h3⟩ := nxt_is ks (heads L) hn
  have hil : i < L.length := by simpa [heads] using h2
  rw [gt_heads, List.getD_eq_getElem?_getD, List.getElem?_eq_getElem hil] at h1
  obtain ⟨x, tl, hx⟩ : ∃ x tl, L[i] = x :: tl := by
    cases e : L[i] with
    | nil => simp [e] at h1
    | cons x tl => exact ⟨x, tl, rfl⟩
  have hgi : gt (heads L) i = some x := by rw [gt_heads, List.getD_eq_getElem?_getD, List.getElem?_eq_getElem hil]; simp [hx]
  refine ⟨x, tl, by rw [List.getElem?_eq_getElem hil, hx], ?_⟩
  have hsp : L = L.take i ++ (x :: tl) :: L.drop (i + 1) := by
    have h4 := List.take_append_drop i L
    rw [List.drop_eq_getElem_cons hil, hx] at h4
    exact h4.symm
  have hst : L.set i tl = L.take i ++ tl :: L.drop (i + 1) := List.set_eq_take_append_cons_drop.trans (by rw [if_pos hil])
  have hall : ∀ u (hu : u < L.length), ∀ y ∈ L[u], ∃ z, gt (heads L) u = some z ∧ cmpR z y ks ≤ 0 := fun u hu y hy => by
    have ha := hL L[u] (List.getElem_mem _)
    have hg : gt (heads L) u = L[u].head? := by rw [gt_heads, List.getD_eq_getElem?_getD, List.getElem?_eq_getElem hu]; rfl
    generalize L[u] = l at ha hg hy
    cases l with
    | nil => cases hy
    | cons z l =>
      refine ⟨z, by rw [hg]; rfl, ?_⟩
      rcases List.mem_cons.1 hy with h4 | h4
      · rw [h4, cmpR_refl]; exact Int.le_refl _
      · exact (List.pairwise_cons.1 ha).1 y h4
  have key : ∀ u (hu : u < L.length), ∀ y ∈ L[u], (u < i → 0 < cmpR y x ks) ∧ cmpR x y ks ≤ 0 := fun u hu y hy => by
    obtain ⟨z, hz, hzy⟩ := hall u hu y hy
    have hb := h3 u (by simpa [heads] using hu)
    unfold btB at hb
    rw [hz, hgi] at hb
    simp only [Bool.or_eq_false_iff, Bool.and_eq_false_iff, decide_eq_false_iff_not] at hb
    have t1 := cmpR_tri x z y ks
    have t2 := cmpR_tri z y x ks
    have n1 := cmpR_neg x z ks
    have n2 := cmpR_neg x y ks
    have n3 := cmpR_neg z y ks
    unfold Tri at t1 t2
    refine ⟨fun hui => ?_, ?_⟩
    · omega
    · omega
  have hfl : L.flatten = (L.take i).flatten ++ x :: (tl ++ (L.drop (i + 1)).flatten) := by
    conv => lhs; rw [hsp]
    simp
  rw [hst, List.flatten_append, List.flatten_cons, hfl]
  unfold sortL
  refine sort_first (fun a b => cmpR a b ks) hneg htr _ _ x (fun a ha => ?_) (fun d hd => ?_)
  · obtain ⟨l, hl, hal⟩ := List.mem_flatten.1 ha
    obtain ⟨u, hu, e⟩ := List.mem_take_iff_getElem.1 hl
    exact (key u (by omega) a (by rw [e]; exact hal)).1 (by omega)
  · rcases List.mem_append.1 hd with h4 | h4
    · exact (key i hil d (by rw [hx]; exact List.mem_cons_of_mem _ h4)).2
    · obtain ⟨l, hl, hdl⟩ := List.mem_flatten.1 h4
      obtain ⟨u, hu, e⟩ := List.mem_drop_iff_getElem.1 hl
      exact (key (i + 1 + u) (by omega) d (by rw [e]; exact hdl)).2
theorem merge_done (ks : List Ky) (L : List (List (List V))) (hn : nxt ks (heads L) = none) : L.flatten = [] := by
  rw [List.flatten_eq_nil_iff]
  intro l hl
  obtain ⟨u, hu, e⟩ := List.getElem_of_mem hl
  cases l with
  | nil => rfl
  | cons x tl =>
    exfalso
    have hg : ∀ v, gt (heads L) v = (L.getD v []).head? := gt_heads L
    -- some list has a row: then one of them is the least
    have hex : ∃ w, w < (heads L).length ∧ (gt (heads L) w).isSome = true ∧ ∀ v, v < (heads L).length → btB ks (heads L) v w = false := by
      have hu2 : u < (heads L).length := by simpa [heads] using hu
      have hsome : (gt (heads L) u).isSome = true := by rw [hg, List.getD_eq_getElem?_getD, List.getElem?_eq_getElem hu, e]; rfl
      generalize heads L = H at hu2 hsome
      -- by induction on the number of lists looked at
      have : ∀ n, n ≤ H.length → (∃ w, w < n ∧ (gt H w).isSome = true) → ∃ w, w < n ∧ (gt H w).isSome = true ∧ ∀ v, v < n → btB ks H v w = false := by
        intro n
        induction n with
        | zero => rintro _ ⟨w, hw, _⟩; omega
        | succ n ih =>
          rintro hn1 ⟨w, hw, hws⟩
          by_cases hold : ∃ w, w < n ∧ (gt H w).isSome = true
          · obtain ⟨w1, k1, k2, k3⟩ := ih (by omega) hold
            cases hb : btB ks H n w1 with
            | false => exact ⟨w1, by omega, k2, fun v hv => by
                rcases Nat.lt_or_ge v n with h5 | h5
                · exact k3 v h5
                · rw [show v = n by omega]; exact hb⟩
            | true => exact ⟨n, by omega, by
                unfold btB at hb
                cases e1 : gt H n with
                | none => rw [e1] at hb; cases hb
                | some _ => rfl, fun v hv => by
                rcases Nat.lt_or_ge v n with h5 | h5
                · exact bt_tr ks H v w1 n (k3 v h5) (bt_asym hb)
                · rw [show v = n by omega]; exact bt_irr ks H n⟩
          · have hwn : w = n := by
              rcases Nat.lt_or_ge w n with h5 | h5
              · exact absurd ⟨w, h5, hws⟩ hold
              · omega
            subst hwn
            refine ⟨w, by omega, hws, fun v hv => ?_⟩
            rcases Nat.lt_or_ge v w with h5 | h5
            · have h6 : gt H v = none := by
                cases e1 : gt H v with
                | none => rfl
                | some _ => exact absurd ⟨v, h5, by rw [e1]; rfl⟩ hold
              unfold btB
              rw [h6]
            · rw [show v = w by omega]; exact bt_irr ks H w
      exact this H.length (Nat.le_refl _) ⟨u, hu2, hsome⟩
    obtain ⟨w, k1, k2, k3⟩ := hex
    rw [nxt_some ks (heads L) w k2 k3] at hn
    cases hn
/-- A list of rows: where it lies, and its rows. -/
structure Lw where
  a : Option Addr
  n : Nat
  cap : Nat
  rs : List Rw
def Lw.sl (r : Lw) : Value := .slice r.a r.n r.cap
def lwcells (ls : List Lw) : List Value := ls.map Lw.sl
theorem lwcells_length (l : List Lw) : (lwcells l).length = l.length := by simp [lwcells]
theorem lwcells_one (l : List Lw) : ∀ u ∈ lwcells l, u.oneCell' = true := by
  intro u hu; obtain ⟨_, _, rfl⟩ := List.mem_map.1 hu; rfl
structure LwOk (w : World) (l : Lw) : Prop where
  tab : Tab w l.a l.rs
  len : l.rs.length = l.n
  le : l.n ≤ l.cap
  max : l.cap ≤ maxLen
theorem LwOk.mono {w w' : World} {l : Lw} (h : LwOk w l) (b : Below w.heap.size w w') : LwOk w' l := ⟨h.tab.mono b, h.len, h.le, h.max⟩
structure Lists (w : World) (ao : Option Addr) (ls : List Lw) : Prop where
  cs : Cs w ao (lwcells ls)
  ok : ∀ l ∈ ls, LwOk w l
theorem Lists.mono {w w' : World} {ao : Option Addr} {ls : List Lw} (h : Lists w ao ls) (b : Below w.heap.size w w') : Lists w' ao ls := ⟨h.cs.mono b (Nat.le_refl _), fun l hl => (h.ok l hl).mono b⟩
theorem Lists.at {w : World} {b o : Nat} {ls : List Lw} (h : Lists w (some ⟨b, o, none⟩) ls) {i : Nat} (hi : i < ls.length) : w.cell? ⟨b, o + i, none⟩ = some (.slice ls[i].a ls[i].n ls[i].cap) :=
  h.cs.at (by simp [lwcells, hi, Lw.sl])
theorem Lists.take {w : World} {ao : Option Addr} {ls : List Lw} (h : Lists w ao ls) (k : Nat) : Lists w ao (ls.take k) :=
  ⟨by have := h.cs.take k; rwa [show (lwcells ls).take k = lwcells (ls.take k) by simp [lwcells, List.map_take]] at this, fun r hr => h.ok r (List.mem_of_mem_take hr)⟩
def Lw.rows (l : Lw) : List (List V) := l.rs.map (·.l)
/-- The list without its first row. -/
def Lw.tl (l : Lw) : Lw := ⟨if l.cap = 1 then l.a else l.a.map fun x => x.add 1, l.n - 1, l.cap - 1, l.rs.tail⟩
theorem Lw.tl_rows (l : Lw) : l.tl.rows = l.rows.tail := by simp [Lw.tl, Lw.rows, List.map_tail]
theorem LwOk.tl {w : World} {l : Lw} (h : LwOk w l) (hn : 0 < l.n) : LwOk w l.tl := by
  refine ⟨⟨?_, fun r hr => h.tab.ok r (List.mem_of_mem_tail hr)⟩, by simp [Lw.tl, h.len], by simp only [Lw.tl]; have := h.le; omega, by simp only [Lw.tl]; have := h.max; omega⟩
  have := h.tab.cs.cut 1 l.cap (by rw [rwcells_length, h.len]; exact h.le)
  rwa [show (rwcells l.rs).drop 1 = rwcells l.rs.tail by simp [rwcells]] at this
/-- The first of rows. -/
def Lw.fst (l : Lw) : Option (List V) := l.rows.head?
set_option maxHeartbeats 1000000 in
theorem first_any (l : Lw) (w : World) (h : LwOk w l) :
    Calls Try.prog 27 #[.slice l.a l.n l.cap] w (fun e w' => ∃ r, e = .returned (.slice r.a r.n r.cap) ∧ hd r = l.fst ∧ RowOk w' r ∧ Below w.heap.size w w' ∧ (r.n = 0 ∨ ∃ x ∈ l.rs, r = x)) := by
  obtain ⟨a, n, cap, rs⟩ := l
  obtain ⟨tab, len, le, mx⟩ := h
  simp only at tab len le mx ⊢
  unfold maxLen at mx
  cases rs with
  | nil =>
    obtain rfl : n = 0 := by simpa using len.symm
    clear tab len
    go_enter Try.func27, Try.ntmps27
    go_wp2_with (first | (at_make; refine Stop.un ?_) | (at_builtin; refine Stop.un ?_))
    go_ret
    exact ⟨nilRw, rfl, rfl, nilRw_ok _, Below.refl _ _, .inl rfl⟩
  | cons r rs =>
    have hn : 0 < n := by simp at len; omega
    obtain ⟨b, o, rfl⟩ := tab.cs.addr (by rw [rwcells_length]; simp)
    have x0 := tab.at (i := 0) (by simp)
    have ro := tab.ok r (List.mem_cons_self ..)
    simp only [Nat.add_zero, List.getElem_cons_zero] at x0
    obtain ⟨ra, rn, rc, rl⟩ := r
    simp only at x0
    have HRO := Lib.hid ro
    have hx : (ra = none → rl = []) := fun e => by
      have h1 := ro.cs
      simp only [e] at h1
      have h2 := cs_none h1
      have h3 := congrArg List.length h2
      rw [vcells_length] at h3
      exact List.eq_nil_of_length_eq_zero (by simp at h3; omega)
    have HX := Lib.hid hx
    have hn0 : (n == 0) = false := by simp; omega
    have hn1 : decide ((n : Int) = 0) = false := decide_eq_false (by omega)
    have hn2 : ((n : Int) == 0) = false := by simp; omega
    clear tab len ro hx
    cases ra with
    | none =>
      go_enter Try.func27, Try.ntmps27
      go_wp2_with (first | (at_make; refine Stop.un ?_) | (at_builtin; refine Stop.un ?_) | (with_reducible refine Stop.eql 26 ?_) | (with_reducible refine Stop.neq 26 ?_))
      refine Stop.mk (wpList_as _ rfl (exec_nilR _ _ _ rfl rfl _) ?_)
      go_wp2_with (first | (at_make; refine Stop.un ?_) | (at_builtin; refine Stop.un ?_))
      go_ret
      refine ⟨⟨some ⟨w.heap.size, 0, none⟩, 0, 0, []⟩, by first | rfl | simp, ?_, ⟨Cs.nil _ _, rfl, Nat.le_refl _, Nat.zero_le _, fun _ h => by cases h⟩, (Below.refl _ _).alloc (Nat.le_refl _) _, .inl rfl⟩
      show some [] = some rl
      rw [HX.out (by first | rfl | trivial)]
    | some ad =>
      go_enter Try.func27, Try.ntmps27
      go_wp2_with (first | (at_make; refine Stop.un ?_) | (at_builtin; refine Stop.un ?_) | (with_reducible refine Stop.eql 26 ?_) | (with_reducible refine Stop.neq 26 ?_))
      refine Stop.mk (wpList_as _ rfl (exec_nilR _ _ _ rfl rfl _) ?_)
      go_wp2_with (first | (at_make; refine Stop.un ?_) | (at_builtin; refine Stop.un ?_))
      go_ret
      exact ⟨_, by first | rfl | simp, rfl, HRO.out, Below.refl _ _, .inr ⟨_, List.mem_cons_self .., rfl⟩⟩
theorem Try.infoLw : (Try.prog.info? 22).map (fun i => (i.zero, i.size, i.bytes)) = some (some (.slice none 0 0), 1, 24) := by kernel_rfl
set_option maxHeartbeats 1000000 in
theorem lclone_any (ao : Option Addr) (n cap : Nat) (ls : List Lw) (w : World) (h : Cs w ao (lwcells ls)) (hn : ls.length = n) (hnc : n ≤ cap) (hcap : cap ≤ maxLen) (hn2 : n ≤ 1000000) :
    Calls Try.prog 26 #[.slice ao n cap] w (fun e w' => ∃ a c, e = .returned (.slice a n c) ∧ Own w w' 22 1 (.slice a n c) n (lwcells ls)) := by
  unfold maxLen at hcap
  have HP := Lib.hid hn
  cases ao with
  | none =>
    have h0 : ls = [] := by
      have := cs_none h
      cases ls with
      | nil => rfl
      | cons k l => simp [lwcells] at this
    subst h0
    obtain rfl : n = 0 := by simpa using hn.symm
    clear h hn
    go_enter Try.func26, Try.ntmps26
    go_wp2_with (first | (at_make; refine Stop.un ?_) | (at_builtin; refine Stop.un ?_) | (with_reducible refine Stop.eql 23 ?_) | (with_reducible refine Stop.eql 40 ?_))
    refine Stop.mk (wpList_as _ rfl (exec_nilS Try.underlying40 _ _ _ rfl rfl _) ?_)
    go_wp2_with (first | (at_make; refine Stop.un ?_) | (at_builtin; refine Stop.un ?_))
    go_ret
    exact ⟨none, 0, rfl, Own.nil _ _ (Below.refl _ _)⟩
  | some ad =>
    clear hn
    go_enter Try.func26, Try.ntmps26
    go_wp2_with (first | (at_make; refine Stop.un ?_) | (at_builtin; refine Stop.un ?_) | (with_reducible refine Stop.eql 23 ?_) | (with_reducible refine Stop.eql 40 ?_))
    refine Stop.mk (wpList_as _ rfl (exec_nilS Try.underlying40 _ _ _ rfl rfl _) ?_)
    go_wp2_with (first | (at_make; refine Stop.un ?_) | (at_builtin; refine Stop.un ?_))
    have hO : Own w (w.alloc (.cells #[] 22)) 22 1 (.slice (some ⟨w.heap.size, 0, none⟩) 0 0) 0 [] := Own.block (Below.refl _ _) rfl (by decide)
    refine Stop.mk (wpList_append_Own w 22 (.slice none 0 0) 1 24 Try.infoLw rfl (by decide) _ _ 40 40 Try.underlying40 rfl rfl _ 0 [] hO rfl _ n (lwcells ls) rfl
      (Src.ofCs Try.underlying40 (h.alloc _) (by rw [lwcells_length, HP.out, Nat.mul_one]) (lwcells_one _)) (by omega) (by omega) (fun ao cap w' h1 h2 _ h4 => ?_))
    simp only [Nat.zero_add, List.nil_append] at h1 ⊢
    clear hO
    go_wp2_with (first | (at_make; refine Stop.un ?_) | (at_builtin; refine Stop.un ?_))
    go_ret
    exact ⟨_, _, by first | rfl | simp, h1⟩
end Go.Proofs.Ytfhlbiddhgkcpaa
