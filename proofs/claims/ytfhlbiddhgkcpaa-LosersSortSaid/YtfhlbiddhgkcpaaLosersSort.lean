/- LosersSort. -/
import Derived.Test.YtfhlbiddhgkcpaaLosD
set_option linter.unusedVariables false
set_option linter.unusedSimpArgs false
namespace Go.Proofs.Ytfhlbiddhgkcpaa
open Go.RowKit
theorem ltrS (ks : List Ky) (a b d : List V) (h1 : cmpR a b ks ≤ 0) (h2 : cmpR b d ks ≤ 0) : cmpR a d ks ≤ 0 := by
  have := cmpR_tri a b d ks
  unfold Tri at this
  omega
theorem sortL_appS (ks : List Ky) (A B : List (List V)) : sortL ks (A ++ B) = mergeS (fun a b => cmpR a b ks) (sortL ks A) (sortL ks B) := sortB_app (fun a b => cmpR a b ks) (fun a b => cmpR_neg a b ks) (ltrS ks) A B
theorem sortL_asc (ks : List Ky) (A : List (List V)) : Asc (fun a b => cmpR a b ks) (sortL ks A) := sortB_asc (fun a b => cmpR a b ks) (fun a b => cmpR_neg a b ks) (ltrS ks) A
theorem sortL_idem (ks : List Ky) (A : List (List V)) : sortL ks (sortL ks A) = sortL ks A := sortB_of_asc (fun a b => cmpR a b ks) (fun a b => cmpR_neg a b ks) (ltrS ks) _ (sortL_asc ks A)
theorem sortL_permS (ks : List Ky) (A : List (List V)) : (sortL ks A).Perm A := sortB_perm _ _
/-- To sort lists, and then all, is to sort all. -/
theorem sortL_flat (ks : List Ky) : ∀ L : List (List (List V)), sortL ks (L.map (sortL ks)).flatten = sortL ks L.flatten
  | [] => rfl
  | l :: L => by
    simp only [List.map_cons, List.flatten_cons]
    rw [sortL_appS, sortL_appS, sortL_idem, sortL_flat ks L]
/-- Lists of rows that lie apart from the blocks of P. -/
def LOff (w : World) (P : Nat → Prop) (Ss : List Lw) : Prop := ∀ l ∈ Ss, LwOk w l ∧ (∀ a, l.a = some a → a.block < w.heap.size ∧ ¬ P a.block) ∧ ∀ r ∈ l.rs, ∀ a, r.a = some a → a.block < w.heap.size ∧ ¬ P a.block
theorem LwOk.oth {P : Nat → Prop} {w x : World} {l : Lw} (h : LwOk w l) (o : Oth P w x) (h1 : ∀ a, l.a = some a → ¬ P a.block) (h2 : ∀ r ∈ l.rs, ∀ a, r.a = some a → ¬ P a.block) : LwOk x l :=
  ⟨⟨o.cs h.tab.cs (fun _ => h1), fun r hr => o.row (h.tab.ok r hr) (h2 r hr)⟩, h.len, h.le, h.max⟩
theorem LOff.step {P P' Q : Nat → Prop} {w x : World} {Ss : List Lw} (h : LOff w P Ss) (o : Oth Q w x) (hQ : ∀ k, k < w.heap.size → Q k → P k) (hP : ∀ k, P' k → P k ∨ w.heap.size ≤ k) : LOff x P' Ss := fun l hl => by
  obtain ⟨h1, h2, h3⟩ := h l hl
  have key : ∀ b, b < w.heap.size ∧ ¬ P b → b < x.heap.size ∧ ¬ P' b := fun b hb => ⟨Nat.lt_of_lt_of_le hb.1 o.size, fun hp => by
    rcases hP b hp with h4 | h4
    · exact hb.2 h4
    · omega⟩
  exact ⟨h1.oth o (fun a ha hq => (h2 a ha).2 (hQ _ (h2 a ha).1 hq)) (fun r hr a ha hq => (h3 r hr a ha).2 (hQ _ (h3 r hr a ha).1 hq)), fun a ha => key _ (h2 a ha), fun r hr a ha => key _ (h3 r hr a ha)⟩
theorem LOff.snoc {P : Nat → Prop} {w : World} {Ss : List Lw} {l : Lw} (h : LOff w P Ss) (hl : LOff w P [l]) : LOff w P (Ss ++ [l]) := fun x hx => by
  rcases List.mem_append.1 hx with hx | hx
  · exact h x hx
  · exact hl x hx
theorem lws_new (w : World) (l : Lw) (e : TypeId) : Cs (w.alloc (.cells #[.slice l.a l.n l.cap] e)) (some ⟨w.heap.size, 0, none⟩) (lwcells [l]) := by
  intro j u hj
  match j, hj with
  | 0, hj => simp [lwcells, Lw.sl] at hj; subst hj; exact ⟨_, _, rfl, by simp⟩
/-- append of one list to lists of the call's own. -/
theorem app_lw1 {w : World} {l : Lw} {e : TypeId} {ops : Array Oper} {rest : List Oper} {o : Oper} {a : Act} {Q : Exit → Act → World → Prop} (w0 : World) (s x : Operand)
    (hgd : Region.wanted o (yielded ops a.tmps) = true) (ho : o.op = .call { callee := .builtin .append, args := #[s, x], argTypes := #[40, 40] })
    {v : Value} {n : Nat} {L : List Lw} (hown : Own w0 w 22 1 v n (lwcells L)) (hs : a.eval s = v)
    (hx : a.eval x = .slice (some ⟨w.heap.size, 0, none⟩) 1 1) (hb : (n + 1) * 24 ≤ 140737488355328)
    (h : ∀ ao cap w', Own w0 w' 22 1 (.slice ao (n + 1) cap) (n + 1) (lwcells (L ++ [l])) → w.grownBy w' v.ownBlock → (∀ k, (Value.slice ao (n + 1) cap).ownBlock = some k → v.ownBlock = some k ∨ w.heap.size ≤ k) → wpList Try.prog ops Q rest (a.put o.dst (.slice ao (n + 1) cap)) w') :
    wpList Try.prog ops Q (o :: rest) a (w.alloc (.cells #[.slice l.a l.n l.cap] e)) :=
  wpList_append_Own w0 22 (.slice none 0 0) 1 24 Try.infoLw rfl (by decide) s x 40 40 Try.underlying40 hgd ho v n (lwcells L) (Own.alloc hown _) hs _ 1 (lwcells [l]) hx
    (Src.ofCs Try.underlying40 (lws_new w l e) (by simp [lwcells]) (lwcells_one _)) hb (by omega)
    (fun ao cap w' h2 h3 _ h4 => h ao cap w' (by simpa [lwcells] using h2) ⟨h3.os, h3.tape, h3.output, Nat.le_trans (by simp) h3.size, fun k hk hn => (h3.block k (by simp; omega) hn).trans (Below.heap_alloc _ _ _ hk)⟩
      (fun k hk => (h4 k hk).imp id (fun hh => by simp at hh; omega)))
/-- What lies where while the lists are sorted. -/
structure SrM (w0 : World) (sv av : Value) (j N : Nat) (Ss : List Lw) (R : List Rw) (w : World) : Prop where
  s : Own w0 w 22 1 sv j (lwcells Ss)
  a : OwnRs w0 w av N R
  ap : Apart sv av
  off : LOff w (fun k => sv.ownBlock = some k ∨ av.ownBlock = some k) Ss
section
variable {w0 w x y : World} {sv av : Value} {j N : Nat} {Ss : List Lw} {R : List Rw}
theorem SrM.below (M : SrM w0 sv av j N Ss R w) (b : Below w.heap.size w x) : SrM w0 sv av j N Ss R x :=
  ⟨Own.keep M.s b, Own.keep M.a b, M.ap, M.off.step (Oth.of_below (fun _ => False) b) (fun _ _ h => h.elim) (fun _ h => .inl h)⟩
theorem SrM.push (M : SrM w0 sv av j N Ss R w) {l : Lw} (hl : LOff w (fun k => sv.ownBlock = some k ∨ av.ownBlock = some k) [l]) {sv' : Value} {n' : Nat} (O : Own w0 x 22 1 sv' n' (lwcells (Ss ++ [l]))) (g : w.grownBy x sv.ownBlock) (k : ∀ k, sv'.ownBlock = some k → sv.ownBlock = some k ∨ w.heap.size ≤ k) : SrM w0 sv' av n' N (Ss ++ [l]) R x :=
  ⟨O, Own.beside M.a g M.ap.symm (Own.below O), (Own.apart M.a M.ap.symm k).symm, (M.off.snoc hl).step (Oth.of_grown g) (fun _ _ h => .inl h) (fun i hi => by
    rcases hi with hi | hi
    · rcases k i hi with h1 | h1
      · exact .inl (.inl h1)
      · exact .inr h1
    · exact .inl (.inr hi))⟩
theorem SrM.all (M : SrM w0 sv av j N Ss R w) {R' : List Rw} {av' : Value} {n' : Nat} (O : OwnRs w0 x av' n' R') (g : w.grownBy x av.ownBlock) (k : ∀ k, av'.ownBlock = some k → av.ownBlock = some k ∨ w.heap.size ≤ k) : SrM w0 sv av' j n' Ss R' x :=
  ⟨Own.beside M.s g M.ap (Own.below O), O, Own.apart M.s M.ap k, M.off.step (Oth.of_grown g) (fun _ _ h => .inr h) (fun i hi => by
    rcases hi with hi | hi
    · exact .inl (.inl hi)
    · rcases k i hi with h1 | h1
      · exact .inl (.inr h1)
      · exact .inr h1)⟩
theorem SrM.fresh (M : SrM w0 sv av j N Ss R w) {g n : Nat} {rs : List Rw} (o : Own2 w x g rs) (hn : rs.length = n) (hm : n ≤ maxLen) : LOff x (fun k => sv.ownBlock = some k ∨ av.ownBlock = some k) [⟨some ⟨g, 0, none⟩, n, n, rs⟩] := fun l hl => by
  obtain rfl := List.mem_singleton.1 hl
  have hP : ∀ k, w.heap.size ≤ k → ¬ (sv.ownBlock = some k ∨ av.ownBlock = some k) := fun k hk h => by
    rcases h with h | h
    · have := Own.lt M.s k h; omega
    · have := Own.lt M.a k h; omega
  refine ⟨⟨o.tab, hn, Nat.le_refl _, hm⟩, fun a ha => ?_, fun r hr a ha => ?_⟩
  · obtain rfl := Option.some.inj ha
    exact ⟨o.at_.lt, hP _ o.ge⟩
  · obtain ⟨h1, h2, _⟩ := (o.ok r hr).2 a ha
    exact ⟨h2, hP _ h1⟩
end
set_option maxRecDepth 100000 in
set_option maxHeartbeats 8000000 in
theorem losersSort_any (a1 : Option Addr) (n1 c1 : Nat) (l1 : List Lw) (ak : Option Addr) (p ck : Nat) (ks : List Ky) (w : World)
    (h1 : Lists w a1 l1) (e1 : l1.length = n1) (m1 : n1 ≤ c1) (cm1 : c1 ≤ maxLen)
    (hk : Cs w ak (kcells ks)) (hp : ks.length = p) (hlp : p ≤ ck) (hcm : ck ≤ maxLen) :
    Calls Try.prog 6 #[.slice a1 n1 c1, .slice ak p ck] w (fun e w' => e = .returned (.bool true) ∧ Below w.heap.size w w') := by
  have HSK := Lib.hid (fun w => some_any16 ak p ck w hlp hcm)
  have HFW := Lib.hid (fun W (h : Lists W a1 l1) => few_any16 a1 n1 c1 l1 W h e1 m1 cm1)
  obtain ⟨t1, f1, f2, f3⟩ := few_take16 h1
  have hfl : fewL 0 l1 ≤ c1 := by have := fewL_le l1 0; omega
  generalize l1.take (fewL 0 l1) = Y at t1 f1 f3
  generalize fewL 0 l1 = i1 at HFW f1 f2 hfl
  have HMIN := Lib.hid (show min (i1 : Int) 16 = ((min i1 16 : Nat) : Int) by omega)
  have t2 := t1.take (min i1 16)
  have g1 : (Y.take (min i1 16)).length = min i1 16 := by rw [List.length_take]; omega
  have g3 : ∀ l ∈ Y.take (min i1 16), l.n ≤ 30 ∧ ∀ r ∈ l.rs, r.n ≤ 20 := fun l hl => f3 l (List.mem_of_mem_take hl)
  have hm16 : min i1 16 ≤ 16 := by omega
  have hmc : min i1 16 ≤ c1 := by omega
  have hmi : min i1 16 ≤ i1 := by omega
  generalize Y.take (min i1 16) = X at t2 g1 g3
  generalize min i1 16 = m at HMIN g1 hm16 hmc t2 g3 hmi
  have hkx : (ks.take (min p 10)).length = min p 10 := by simp; omega
  have kx := kcut hk (min p 10)
  have hkc : min p 10 ≤ ck := by omega
  have hk10 : min p 10 ≤ 10 := by omega
  generalize ks.take (min p 10) = kk at hkx kx
  generalize min p 10 = f at hkx hkc HSK hk10
  have HXX := Lib.hid (And.intro g1 g3)
  have HKX := Lib.hid (And.intro t2 kx)
  have HST := Lib.hid (fun (l : Lw) W (h : LwOk W l) (hn : l.n ≤ 1000) (hr : ∀ r ∈ l.rs, r.n ≤ 1000000) kx => sort_any l.a l.n l.cap l.rs ak f ck kk W h.tab h.len h.le h.max (by omega) hr kx hkx hkc hcm)
  have HMG := Lib.hid (fun ab cb (Ss : List Lw) W T hl hlc hlm hr hasc hT kx => merge_any ab m cb Ss ak f ck kk W T hl hlc hlm hm16 hr hasc hT kx hkx hkc hcm (by omega))
  clear hp hk hkx e1 t1 f1 f3 g1 g3 t2 kx
  unfold maxLen at cm1
  go_enter Try.func6, Try.ntmps6
  go_wp2_with (first | (at_make; refine Stop.un ?_) | (at_builtin; refine Stop.un ?_))
  refine (shown_any16 _).mono ?_
  rintro e wb ⟨rfl, b0⟩
  replace h1 := h1.mono b0
  have HF1 := Lib.hid (HFW.out wb h1)
  clear HFW h1
  go_wp2_with (first | (at_make; refine Stop.un ?_) | (at_builtin; refine Stop.un ?_))
  refine HF1.out.mono ?_
  rintro e w2 ⟨rfl, b2⟩
  have b3 := b0.next b2
  clear b0 b2 HF1
  go_wp2_with (first | (at_make; refine Stop.un ?_) | (at_builtin; refine Stop.un ?_))
  refine (HSK.out _).mono ?_
  rintro e w3 ⟨rfl, rfl⟩
  go_wp2_with (first | (at_make; refine Stop.un ?_) | (at_builtin; refine Stop.un ?_) | (with_reducible refine Stop.slice ?_))
  rw [HMIN.out]
  refine Stop.mk ?_
  clear HMIN HSK
  go_wp2_with (first | (at_make; refine Stop.un ?_) | (at_builtin; refine Stop.un ?_))
  go_loopw [26, 8, 9] (fun iv sv av wr => ∃ (j : Nat) (ab : Option Addr) (cb : Nat) (al : Option Addr) (N cN : Nat) (Ss : List Lw) (R : List Rw), j ≤ m ∧ iv = .int .i64 (j : Int) ∧ sv = .slice ab j cb ∧ av = .slice al N cN ∧ N ≤ 30 * j ∧ SrM w (.slice ab j cb) (.slice al N cN) j N Ss R wr ∧ Hid (Ss.map Lw.rows = (X.take j).map (fun l => sortL kk l.rows)) ∧ Hid (R = ((X.take j).map (·.rs)).flatten)) (fun iv _ _ _ => m - (intOf iv).toNat)
  case atStart => exact ⟨0, none, 0, none, 0, 0, [], [], Nat.zero_le _, rfl, rfl, rfl, by omega, ⟨Own.nil _ _ b3, Own.nil _ _ b3, Apart.nil _, fun l hl => by cases hl⟩, Lib.hid rfl, Lib.hid rfl⟩
  case round =>
    obtain ⟨j, ab, cb, al, N, cN, Ss, R, hj, rfl, rfl, rfl, hN, M, HS, HR⟩ := hrel
    by_cases hlt : j < m
    · have hjl : j < X.length := by have := HXX.out.1; omega
      have t2 := HKX.out.1.mono (Own.below M.s)
      have kx := HKX.out.2.mono (Own.below M.s) (Nat.le_refl _)
      obtain ⟨b, o, rfl⟩ := t2.cs.addr (by rw [lwcells_length]; omega)
      have x0 := t2.at hjl
      have lk := t2.ok X[j] (List.getElem_mem _)
      have hx3 := HXX.out.2 X[j] (List.getElem_mem _)
      have HTK : Hid (X.take (j + 1) = X.take j ++ [X[j]]) := Lib.hid (by rw [List.take_succ_eq_append_getElem hjl])
      have hlX : X[j] ∈ X := List.getElem_mem _
      generalize X[j] = l at x0 lk hx3 HTK hlX
      have HLX := Lib.hid hlX
      clear hlX
      have hS := HST.out l wr lk (by omega) (fun r hr => Nat.le_trans (hx3.2 r hr) (by omega)) kx
      have HSO := Lib.hid hS
      have hl30 := hx3.1
      have hlc := lk.le
      have hlm : l.cap ≤ 9223372036854775807 := lk.max
      clear hS hjl t2 kx hx3
      go_wp2_with (first | (at_make; refine Stop.un ?_) | (at_builtin; refine Stop.un ?_))
      refine HSO.out.mono ?_
      rintro e w4 ⟨g, rs, rfl, o4, hrs⟩
      have hrl : rs.length = l.n := by
        have h2 := congrArg List.length hrs
        rw [List.length_map] at h2
        rw [h2, (sortL_permS _ _).length_eq, List.length_map, lk.len]
      have fr := M.fresh o4 hrl (by unfold maxLen; omega)
      replace M := M.below o4.below
      replace lk := lk.mono o4.below
      have HSS : Hid ((Ss ++ [(⟨some ⟨g, 0, none⟩, l.n, l.n, rs⟩ : Lw)]).map Lw.rows = (X.take (j + 1)).map (fun l => sortL kk l.rows)) := Lib.hid (by
        rw [HTK.out, List.map_append, List.map_append, HS.out]
        congr 1
        show [rs.map (·.l)] = _
        rw [hrs]; rfl)
      have HRR : Hid (R ++ l.rs = ((X.take (j + 1)).map (·.rs)).flatten) := Lib.hid (by rw [HTK.out, List.map_append, List.flatten_append, HR.out]; simp)
      have HLL := Lib.hid lk.len
      clear o4 hrs hrl HSO HTK HS HR x0
      go_wp2_with (first | (at_make; refine Stop.un ?_) | (at_builtin; refine Stop.un ?_))
      refine Stop.mk (app_lw1 (l := ⟨some ⟨g, 0, none⟩, l.n, l.n, rs⟩) w _ _ rfl rfl M.s rfl rfl (by omega) ?_)
      intro a5 c5 w5 O5 g5 k5
      have lk5 : LwOk w5 l := (HKX.out.1.mono (Own.below O5)).ok l HLX.out
      replace M := M.push fr O5 g5 k5
      clear O5 g5 k5 fr lk HLX
      go_wp2_with (first | (at_make; refine Stop.un ?_) | (at_builtin; refine Stop.un ?_))
      refine Stop.mk (app_rws w _ _ rfl rfl M.a rfl rfl HLL.out lk5.tab.cs (by omega) ?_)
      intro a6 c6 w6 O6 g6 k6
      replace M := M.all O6 g6 k6
      clear O6 g6 k6 lk5
      go_wp2_with (first | (at_make; refine Stop.un ?_) | (at_builtin; refine Stop.un ?_))
      go_roundw
      case rel => exact ⟨j + 1, a5, c5, a6, N + l.n, c6, _, _, by omega, by go_num, rfl, rfl, by omega, M, HSS, HRR⟩
      case measure => simp [intOf]; omega
    · obtain rfl : j = m := by omega
      have hXt : X.take j = X := List.take_of_length_le (Nat.le_of_eq HXX.out.1)
      have hS := HS.out
      have hR := HR.out
      rw [hXt] at hS hR
      have kx := HKX.out.2.mono (Own.below M.s) (Nat.le_refl _)
      have hla := owns_le M.s.1
      have hma : cb ≤ maxLen := owns_max M.s.1
      have hlb := owns_le M.a.1
      have hmb : cN ≤ maxLen := owns_max M.a.1
      have T : Lists wr ab Ss := ⟨Own.cs M.s, fun l hl => (M.off l hl).1⟩
      have hSl : Ss.length = j := by have := Own.length M.s; rw [lwcells_length] at this; omega
      have hRl : R.length = N := OwnRs.length M.a
      have hSin : ∀ l ∈ Ss, ∃ x ∈ X, sortL kk x.rows = l.rows := fun l hl => by
        have h2 : l.rows ∈ X.map (fun l => sortL kk l.rows) := hS ▸ List.mem_map_of_mem hl
        obtain ⟨x, hx, e⟩ := List.mem_map.1 h2
        exact ⟨x, hx, e⟩
      have TX := HKX.out.1.mono (Own.below M.s)
      have hSr : ∀ l ∈ Ss, ∀ r ∈ l.rs, r.n ≤ 1000000 := fun l hl r hr => by
        obtain ⟨x, hx, e⟩ := hSin l hl
        have h4 : r.l ∈ l.rows := List.mem_map_of_mem hr
        rw [← e] at h4
        obtain ⟨y, hy, e2⟩ := List.mem_map.1 ((sortL_permS _ _).mem_iff.1 h4)
        have h5 := (HXX.out.2 x hx).2 y hy
        have h6 := ((TX.ok x hx).tab.ok y hy).len
        have h7 := ((T.ok l hl).tab.ok r hr).len
        rw [e2] at h6
        omega
      have hSa : ∀ l ∈ Ss, Asc (fun a b => cmpR a b kk) l.rows := fun l hl => by
        obtain ⟨x, hx, e⟩ := hSin l hl
        rw [← e]
        exact sortL_asc _ _
      have hfl : sortL kk (Ss.map Lw.rows).flatten = sortL kk (R.map (·.l)) := by
        rw [hS, hR, show X.map (fun l => sortL kk l.rows) = (X.map Lw.rows).map (sortL kk) by simp, sortL_flat, List.map_flatten, List.map_map]
        rfl
      have hfn : (Ss.map Lw.rows).flatten.length ≤ 100000 := by
        rw [← (sortL_permS kk (Ss.map Lw.rows).flatten).length_eq, hfl, (sortL_permS kk _).length_eq, List.length_map, hRl]
        omega
      have hRX : ∀ r ∈ R, RowOk wr r ∧ r.n ≤ 20 := fun r hr => by
        rw [hR] at hr
        obtain ⟨l', hl', hr'⟩ := List.mem_flatten.1 hr
        obtain ⟨x, hx, rfl⟩ := List.mem_map.1 hl'
        exact ⟨(TX.ok x hx).tab.ok r hr', (HXX.out.2 x hx).2 r hr'⟩
      have lkR : LwOk wr ⟨al, N, cN, R⟩ := ⟨⟨Own.cs M.a, fun r hr => (hRX r hr).1⟩, hRl, hlb, hmb⟩
      have HM := Lib.hid (HMG.out ab cb Ss wr T hSl hla hma hSr hSa hfn kx)
      have HFL := Lib.hid hfl
      have HRX : Hid ((∀ r ∈ R, r.n ≤ 1000000) ∧ R.length = N) := Lib.hid ⟨fun r hr => Nat.le_trans (hRX r hr).2 (by omega), hRl⟩
      have bw := Own.below M.s
      unfold maxLen at hma hmb
      clear hXt hS hR T hSl hRl hSin TX hSr hSa hfl hfn hRX M HS HR HMG
      go_wp2_with (first | (at_make; refine Stop.un ?_) | (at_builtin; refine Stop.un ?_))
      refine HM.out.mono ?_
      rintro e w4 ⟨a7, N7, c7, rm, rfl, O7, ok7, hr7⟩
      have b7 := Own.below O7
      replace lkR := lkR.mono b7
      replace kx := kx.mono b7 (Nat.le_refl _)
      have T7 : Tab w4 a7 rm := ⟨Own.cs O7, ok7⟩
      have hl7 : rm.length = N7 := OwnRs.length O7
      have hle7 := owns_le O7.1
      have hmx7 : c7 ≤ maxLen := owns_max O7.1
      have HS7 := Lib.hid (HST.out ⟨al, N, cN, R⟩ w4 lkR (by simp only; omega) HRX.out.1 kx)
      have bw7 := bw.next b7
      have HRM := Lib.hid (hr7.trans HFL.out)
      have H7 := Lib.hid (And.intro hl7 hmx7)
      unfold maxLen at hmx7
      clear HM HFL O7 ok7 hr7 b7 bw lkR kx hl7 HST
      go_wp2_with (first | (at_make; refine Stop.un ?_) | (at_builtin; refine Stop.un ?_))
      refine HS7.out.mono ?_
      rintro e w8 ⟨g, rs, rfl, o8, hrs⟩
      have T8 := T7.mono o8.below
      have hql : rs.length = N := by
        have h2 := congrArg List.length hrs
        rw [List.length_map, (sortL_permS _ _).length_eq, List.length_map] at h2
        exact h2.trans HRX.out.2
      have hs := samerows_any a7 N7 c7 rm (some ⟨g, 0, none⟩) N N rs w8 T8 o8.tab H7.out.1 hql hle7 (Nat.le_refl _) H7.out.2 (by unfold maxLen; omega)
      rw [decide_eq_true (by rw [HRM.out, hrs])] at hs
      have HSM := Lib.hid hs
      have bw8 := bw7.next o8.below
      clear hs hrs o8 T8 T7 hql HS7 bw7
      go_wp2_with (first | (at_make; refine Stop.un ?_) | (at_builtin; refine Stop.un ?_))
      refine HSM.out.mono ?_
      rintro e w9 ⟨rfl, b9⟩
      have bw9 := bw8.next b9
      clear HSM b9 bw8
      go_wp2_with (first | (at_make; refine Stop.un ?_) | (at_builtin; refine Stop.un ?_))
      go_ret
      exact ⟨by first | rfl | simp, bw9⟩
end Go.Proofs.Ytfhlbiddhgkcpaa
