/- What is told of each group of rows. -/
import Derived.Test.YtbiniecjenencaaGrpB
import Derived.Test.YtbiniecjenencaaStb
import Derived.Test.YtbiniecjenencaaODeep
import Derived.Test.YtbiniecjenencaaOShown
import Derived.Test.YtbiniecjenencaaCutR
import Derived.Deep.DeepCutAuto
import Derived.Deep.CutBlock
import Derived.Test.YtbiniecjenencaaOSame
set_option linter.unusedVariables false
set_option linter.unusedSimpArgs false
set_option maxRecDepth 10000
namespace Go.Proofs.Ytbiniecjenencaa
open Go.RowKit
/-! What is told of each group of rows. -/
theorem Try.infoKyG : (Try.prog.info? 59).map (fun i => (i.zero, i.size, i.bytes)) = some (some (.agg #[.int .i64 0, .bool false]), 2, 16) := by kernel_rfl
theorem kcells_oneG : ∀ (l : List Ky), ∀ u ∈ kcells l, u.oneCell' = true
  | [], u, hu => by cases hu
  | k :: l, u, hu => by
    simp only [kcells, List.mem_cons] at hu
    rcases hu with rfl | rfl | hu
    · rfl
    · rfl
    · exact kcells_oneG l u hu
theorem kcells_app (a b : List Ky) : kcells (a ++ b) = kcells a ++ kcells b := by
  induction a with
  | nil => rfl
  | cons k a ih => simp only [List.cons_append, kcells, ih]
theorem ky_new (w : World) (c : Int) (e : TypeId) : Cs (w.alloc (.cells #[.int .i64 c, .bool false] e)) (some ⟨w.heap.size, 0, none⟩) (kcells [⟨c, false⟩]) := by
  intro j u hj
  match j, hj with
  | 0, hj => simp [kcells] at hj; subst hj; exact ⟨_, _, rfl, by simp⟩
  | 1, hj => simp [kcells] at hj; subst hj; exact ⟨_, _, rfl, by simp⟩
/-- append of a key. -/
theorem app_ky1 {w : World} {c : Int} {e : TypeId} {ops : Array Oper} {rest : List Oper} {o : Oper} {a : Act} {Q : Exit → Act → World → Prop} (w0 : World) (s x : Operand)
    (hgd : Region.wanted o (yielded ops a.tmps) = true) (ho : o.op = .call { callee := .builtin .append, args := #[s, x], argTypes := #[57, 57] })
    {v : Value} {n : Nat} {l : List Ky} (hown : Own w0 w 59 2 v n (kcells l)) (hs : a.eval s = v)
    (hx : a.eval x = .slice (some ⟨w.heap.size, 0, none⟩) 1 1) (hb : (n + 1) * 16 ≤ 140737488355328)
    (h : ∀ ao cap w', Own w0 w' 59 2 (.slice ao (n + 1) cap) (n + 1) (kcells (l ++ [⟨c, false⟩])) → w.grownBy w' v.ownBlock → (∀ k, (Value.slice ao (n + 1) cap).ownBlock = some k → v.ownBlock = some k ∨ w.heap.size ≤ k) → wpList Try.prog ops Q rest (a.put o.dst (.slice ao (n + 1) cap)) w') :
    wpList Try.prog ops Q (o :: rest) a (w.alloc (.cells #[.int .i64 c, .bool false] e)) :=
  wpList_append_Own w0 59 (.agg #[.int .i64 0, .bool false]) 2 16 Try.infoKyG rfl (by decide) s x 57 57 Try.underlying57 hgd ho v n (kcells l) (Own.alloc hown _) hs _ 1 (kcells [⟨c, false⟩]) hx
    (Src.ofCs Try.underlying57 (ky_new w c e) rfl (kcells_oneG _)) hb (by omega)
    (fun ao cap w' h2 h3 _ h4 => h ao cap w' (by rw [kcells_app]; exact h2) ⟨h3.os, h3.tape, h3.output, Nat.le_trans (by simp) h3.size, fun k hk hn => (h3.block k (by simp; omega) hn).trans (Below.heap_alloc _ _ _ hk)⟩
      (fun k hk => (h4 k hk).imp id (fun hh => by simp at hh; omega)))
/-- Rows that the call has made: the list is its own, and each row. -/
structure OutM (w0 w : World) (v : Value) (N : Nat) (rs : List Rw) : Prop where
  O : OwnRs w0 w v N rs
  F : ∀ r ∈ rs, RowOk w r ∧ Fz w r ∧ ∀ a, r.a = some a → w0.heap.size ≤ a.block ∧ a.block < w.heap.size ∧ v.ownBlock ≠ some a.block
section
variable {w0 w x : World} {v v' : Value} {N n' : Nat} {rs : List Rw}
theorem OutM.nil (b : Below w0.heap.size w0 w) : OutM w0 w (.slice none 0 0) 0 [] := ⟨Own.nil _ _ b, fun r hr => by cases hr⟩
theorem OutM.below (M : OutM w0 w v N rs) (b : Below w.heap.size w x) : OutM w0 x v N rs :=
  ⟨Own.keep M.O b, fun r hr => ⟨(M.F r hr).1.mono b, (M.F r hr).2.1.mono b, fun a ha => ⟨((M.F r hr).2.2 a ha).1, Nat.lt_of_lt_of_le ((M.F r hr).2.2 a ha).2.1 b.size, ((M.F r hr).2.2 a ha).2.2⟩⟩⟩
theorem Fz.grown {r : Rw} {row : Option Nat} (h : Fz w r) (g : w.grownBy x row) (hn : ∀ a, r.a = some a → row ≠ some a.block) : Fz x r := fun a ha => by
  obtain ⟨g1, cs, e, e1, e2, e3⟩ := h a ha
  refine ⟨g1, cs, e, e1, (g.block g1 (Array.getElem?_eq_some_iff.1 e2).1 (fun h0 => hn a ha ?_)).trans e2, e3⟩
  rw [e1]; exact h0.symm
theorem OutM.push (M : OutM w0 w v N rs) {r : Rw} (ro : RowOk w r) (fz : Fz w r) (rb : ∀ a, r.a = some a → w0.heap.size ≤ a.block ∧ a.block < w.heap.size ∧ v.ownBlock ≠ some a.block)
    (O : OwnRs w0 x v' n' (rs ++ [r])) (g : w.grownBy x v.ownBlock) (k : ∀ k, v'.ownBlock = some k → v.ownBlock = some k ∨ w.heap.size ≤ k) : OutM w0 x v' n' (rs ++ [r]) := by
  refine ⟨O, fun y hy => ?_⟩
  have hy2 : RowOk w y ∧ Fz w y ∧ ∀ a, y.a = some a → w0.heap.size ≤ a.block ∧ a.block < w.heap.size ∧ v.ownBlock ≠ some a.block := by
    rcases List.mem_append.1 hy with h1 | h1
    · exact M.F y h1
    · rw [List.mem_singleton.1 h1]; exact ⟨ro, fz, rb⟩
  refine ⟨⟨hy2.1.cs.grown g (fun z hz => ⟨(hy2.2.2 z hz).2.1, (hy2.2.2 z hz).2.2⟩), hy2.1.len, hy2.1.le, hy2.1.max, hy2.1.kind⟩, hy2.2.1.grown g (fun a ha => (hy2.2.2 a ha).2.2), fun a ha => ?_⟩
  obtain ⟨h1, h2, h3⟩ := hy2.2.2 a ha
  refine ⟨h1, Nat.lt_of_lt_of_le h2 g.size, fun e => ?_⟩
  rcases k _ e with h4 | h4
  · exact h3 h4
  · omega
theorem OutM.up {w1 : World} (M : OutM w1 w v N rs) (b : Below w0.heap.size w0 w1) : OutM w0 w v N rs :=
  ⟨Own.up M.O b, fun r hr => ⟨(M.F r hr).1, (M.F r hr).2.1, fun a ha => ⟨Nat.le_trans b.size ((M.F r hr).2.2 a ha).1, ((M.F r hr).2.2 a ha).2⟩⟩⟩
end
/-- Rows of the call's own, or none and an error. -/
def RetGrp (w : World) (res : Int × List (List V)) : Ending → World → Prop := fun e w' =>
  ∃ a N c rs, e = .returned (.tuple #[.slice a N c, .int .i64 res.1]) ∧ OutM w w' (.slice a N c) N rs ∧ rs.map (·.l) = res.2
theorem rw_ownG {w w' : World} {a : Option Addr} {m c : Nat} {l : List V} (O : OwnV w w' (.slice a m c) m l) (hk : ∀ v ∈ l, 0 ≤ v.k) : RowOk w' ⟨a, m, c, l⟩ := ⟨Own.cs O, OwnV.length O, owns_le O.1, owns_max O.1, hk⟩
theorem pend_cons (bs : List Int) (r : List V) (l : List (List V)) (o : Bool) : pend bs (r :: l) o = (r :: l).takeWhile (eqK (gkeys bs) r) :: runs (gkeys bs) ((r :: l).dropWhile (eqK (gkeys bs) r)) := by
  unfold pend
  rw [if_neg (fun h => by cases h.1.2), runs_cons, tw_pos, dw_pos]
theorem pend_done (bs : List Int) (l : List (List V)) : pend bs l false = runs (gkeys bs) l := if_neg (fun h => by cases h.2)
def lenV : Value → Nat
  | .slice _ n _ => n
  | _ => 0
/-- What kinds ask of columns. -/
theorem kinds_ok {kinds : List UInt8} {bs : List Int} {ags : List Ag} (h : kindsE kinds bs ags = 0) : (∀ c ∈ bs, isCol kinds.length c = true) ∧ (∀ x ∈ ags, agB kinds.length x = true) ∧ bs.length ≤ 8 ∧ ags.length ≤ 8 := by
  unfold kindsE at h
  split at h
  · cases h
  · next h8 =>
    split at h
    · cases h
    · next hb =>
      split at h
      · cases h
      · next ha =>
        have hb2 : byB kinds.length bs = true := by simpa using hb
        unfold byB at hb2
        rw [Bool.and_eq_true] at hb2
        have ha2 : ags.all (agB kinds.length) = true := by simpa using ha
        exact ⟨fun c hc => List.all_eq_true.1 hb2.1 c hc, fun x hx => List.all_eq_true.1 ha2 x hx, by omega, by omega⟩
theorem isCol_iff {n : Nat} {c : Int} (h : isCol n c = true) : 0 ≤ c ∧ c < n := by
  unfold isCol at h
  rw [Bool.and_eq_true, decide_eq_true_eq, decide_eq_true_eq] at h
  exact h
theorem agB_col {n : Nat} {x : Ag} (h : agB n x = true) : x.op = 1 ∨ (0 ≤ x.col ∧ x.col < n) := by
  unfold agB at h
  split at h
  · exact .inl (by assumption)
  · rw [Bool.and_eq_true] at h
    exact .inr (isCol_iff h.2)
set_option maxRecDepth 100000 in
set_option maxHeartbeats 16000000 in
theorem grows_any (ka : Option Addr) (kn kc : Nat) (kinds : List UInt8) (ra : Option Addr) (rn rc : Nat) (rows : List Rw) (ba : Option Addr) (bn bc : Nat) (bs : List Int) (ga : Option Addr) (gn gc : Nat) (ags : List Ag) (w : World)
    (h1 : Cs w ka (bcells kinds)) (e1 : kinds.length = kn) (m1 : kn ≤ kc) (c1 : kc ≤ maxLen)
    (t : Tab w ra rows) (e2 : rows.length = rn) (m2 : rn ≤ rc) (c2 : rc ≤ maxLen) (s2 : rn ≤ 1000) (hr : ∀ r ∈ rows, r.n ≤ 1000)
    (h3 : Cs w ba (icells bs)) (e3 : bs.length = bn) (m3 : bn ≤ bc) (c3 : bc ≤ maxLen) (s3 : bn ≤ 1000)
    (h4 : Cs w ga (agcells ags)) (e4 : ags.length = gn) (m4 : gn ≤ gc) (c4 : gc ≤ maxLen) (s4 : gn ≤ 1000) :
    Calls Try.prog 11 #[.slice ka kn kc, .slice ra rn rc, .slice ba bn bc, .slice ga gn gc] w (RetGrp w (grpB kinds (rows.map (·.l)) bs ags)) := by
  have HKD := Lib.hid (fun W h1 h3 h4 => gkinds_any ka kn kc kinds ba bn bc bs ga gn gc ags W h1 e1 m1 c1 h3 e3 m3 c3 s3 h4 e4 m4 c4 s4)
  have HCF := Lib.hid (fun gb W z h1 t => gcontainsf_any gb ka kn kc kinds ra rn rc rows W z h1 e1 m1 c1 t e2 m2 c2)
  have HST := Lib.hid (fun W t (ak : Option Addr) (p ck : Nat) (ks : List Ky) hk hl hle hm => sort_any ra rn rc rows ak p ck ks W t e2 m2 c2 (by omega) (fun r h => Nat.le_trans (hr r h) (by omega)) hk hl hle hm)
  have HTT := Lib.hid (And.intro h1 (And.intro t (And.intro h3 h4)))
  have HN := Lib.hid (And.intro e1 (And.intro e2 (And.intro e3 (And.intro e4 hr))))
  obtain ⟨E, hE⟩ : ∃ E, kindsE kinds bs ags = E := ⟨_, rfl⟩
  obtain ⟨RES, hRES⟩ : ∃ RES, grpB kinds (rows.map (·.l)) bs ags = RES := ⟨_, rfl⟩
  have HE := Lib.hid (And.intro hE hRES)
  rw [hRES]
  have b1 := (Below.refl w.heap.size w).alloc (Nat.le_refl _) (.cells #[.slice ka kn kc] 22)
  have zb := At.new w #[.slice ka kn kc] 22
  unfold maxLen at c1 c2 c3 c4
  clear h1 t h3 h4 e1 e2 e3 e4 hE hRES hr
  go_enter Try.func11, Try.ntmps11
  go_upto_region 1 with fail
  generalize w.alloc (.cells #[.slice ka kn kc] 22) = wA at zb b1 ⊢
  obtain ⟨gb, hgbe⟩ : ∃ gb, w.heap.size = gb := ⟨_, rfl⟩
  rw [hgbe] at zb ⊢
  clear hgbe
  have c0 := zb.cell 0 rfl
  have HK1 := Lib.hid (HKD.out wA (HTT.out.1.mono b1 (Nat.le_refl _)) (HTT.out.2.2.1.mono b1 (Nat.le_refl _)) (HTT.out.2.2.2.mono b1 (Nat.le_refl _)))
  rw [HE.out.1] at HK1
  clear HKD
  go_wp2_with (first | (at_make; refine Stop.un ?_) | (at_builtin; refine Stop.un ?_) | (with_reducible refine Stop.conv 22 9 ?_) | (with_reducible refine Stop.conv 9 22 ?_))
  refine HK1.out.mono ?_
  rintro e w1 ⟨a1, n1, c1', rfl, OK⟩
  replace b1 := b1.next (Own.below OK)
  replace zb := zb.mono (Own.below OK)
  clear HK1 OK c0
  by_cases hE0 : E = 0
  · subst hE0
    go_wp2_with (first | (at_make; refine Stop.un ?_) | (at_builtin; refine Stop.un ?_) | (with_reducible refine Stop.conv 22 9 ?_) | (with_reducible refine Stop.conv 9 22 ?_))
    go_loopw [35, 12] (fun iv kv wr => ∃ (j : Nat) (ak : Option Addr) (ck : Nat), j ≤ bn ∧ iv = .int .i64 (j : Int) ∧ kv = .slice ak j ck ∧ Own w wr 59 2 (.slice ak j ck) j (kcells (gkeys (bs.take j))) ∧ At wr gb #[.slice ka kn kc] 22 ∧ (Value.slice ak j ck).ownBlock ≠ some gb) (fun iv _ _ => bn - (intOf iv).toNat)
    case atStart => exact ⟨0, none, 0, Nat.zero_le _, rfl, rfl, Own.nil _ _ b1, zb, by simp [Value.ownBlock]⟩
    case round =>
      clear b1 zb
      obtain ⟨j, ak, ck, hj, rfl, rfl, O, zb, hne⟩ := hrel
      by_cases hlt : j < bn
      · have hjl : j < bs.length := by have := HN.out.2.2.1; omega
        have h2 := HTT.out.2.2.1.mono (Own.below O) (Nat.le_refl _)
        obtain ⟨b, o, rfl⟩ := h2.addr (by rw [icells_length]; omega)
        have x0 : wr.cell? ⟨b, o + j, none⟩ = some (.int .i64 bs[j]) := h2.at (by simp [icells, hjl])
        have HT : Hid (gkeys (bs.take (j + 1)) = gkeys (bs.take j) ++ [⟨bs[j], false⟩]) := Lib.hid (by unfold gkeys; rw [List.take_succ_eq_append_getElem hjl, List.map_append]; rfl)
        have xl := lt_cell x0
        generalize bs[j] = x at x0 HT
        clear hjl h2
        go_wp2_with (first | (at_make; refine Stop.un ?_) | (at_builtin; refine Stop.un ?_) | (with_reducible refine Stop.conv 22 9 ?_) | (with_reducible refine Stop.conv 9 22 ?_))
        refine Stop.mk (app_ky1 (c := x) w _ _ rfl rfl O rfl rfl (by omega) ?_)
        intro a5 c5 w5 O5 g5 k5
        have zb5 := zb.grownK g5 hne
        have hne5 : (Value.slice a5 (j + 1) c5).ownBlock ≠ some gb := fun e => (k5 gb e).elim hne (fun h => by have := zb.lt; omega)
        rw [← HT.out] at O5
        clear O zb hne g5 k5 x0 xl HT
        go_wp2_with (first | (at_make; refine Stop.un ?_) | (at_builtin; refine Stop.un ?_) | (with_reducible refine Stop.conv 22 9 ?_) | (with_reducible refine Stop.conv 9 22 ?_))
        go_roundw
        case rel => exact ⟨j + 1, a5, c5, by omega, by go_num, rfl, O5, zb5, hne5⟩
        case measure => simp [intOf]; omega
      · obtain rfl : j = bn := by omega
        have hO : gkeys (bs.take j) = gkeys bs := by rw [List.take_of_length_le (by have := HN.out.2.2.1; omega)]
        rw [hO] at O
        have bw := Own.below O
        have hkle := owns_le O.1
        have hkmx : ck ≤ maxLen := owns_max O.1
        have kx := Own.cs O
        have HCF1 := Lib.hid (HCF.out gb wr zb (HTT.out.1.mono bw (Nat.le_refl _)) (HTT.out.2.1.mono bw))
        have HKL : Hid ((gkeys bs).length = j) := Lib.hid (by unfold gkeys; rw [List.length_map]; exact HN.out.2.2.1)
        have HKX := Lib.hid hkmx
        unfold maxLen at hkmx
        clear hO O hne hlt HCF zb
        cases hq : rows.all (fun r => fitL kinds r.l) with
        | false =>
          have HR : Hid (RES = (7, [])) := Lib.hid (by
            rw [← HE.out.2]
            unfold grpB
            rw [if_pos HE.out.1, if_neg (by rw [List.all_map]; intro h; rw [show (fitL kinds ∘ fun (r : Rw) => r.l) = fun r => fitL kinds r.l from rfl, hq] at h; cases h)])
          rw [hq] at HCF1
          clear hq
          go_wp2_with (first | (at_make; refine Stop.un ?_) | (at_builtin; refine Stop.un ?_) | (with_reducible refine Stop.conv 22 9 ?_) | (with_reducible refine Stop.conv 9 22 ?_))
          refine HCF1.out.mono ?_
          rintro e w2 ⟨rfl, b2⟩
          have bw2 := bw.next b2
          clear HCF1
          go_wp2_with (first | (at_make; refine Stop.un ?_) | (at_builtin; refine Stop.un ?_) | (with_reducible refine Stop.conv 22 9 ?_) | (with_reducible refine Stop.conv 9 22 ?_))
          exact bodyPost_ret (v := .tuple #[.slice none 0 0, .int .i64 7]) (by simp [results, Try.results11, go_sem]) rfl ⟨none, 0, 0, [], by rw [HR.out], OutM.nil bw2, by rw [HR.out]; rfl⟩
        | true =>
          have HR : Hid (RES = tellAll bs ags (pend bs (sortL (gkeys bs) (rows.map (·.l))) true) []) := Lib.hid (by
            rw [← HE.out.2]
            unfold grpB
            rw [if_pos HE.out.1, if_pos (by rw [List.all_map]; exact hq)])
          have HFIT : Hid (∀ r ∈ rows, fitL kinds r.l = true) := Lib.hid (fun r hr => List.all_eq_true.1 hq r hr)
          rw [hq] at HCF1
          clear hq
          go_wp2_with (first | (at_make; refine Stop.un ?_) | (at_builtin; refine Stop.un ?_) | (with_reducible refine Stop.conv 22 9 ?_) | (with_reducible refine Stop.conv 9 22 ?_))
          refine HCF1.out.mono ?_
          rintro e w2 ⟨rfl, b2⟩
          have bw2 := bw.next b2
          have kx2 := kx.mono b2 (Nat.le_refl _)
          have HS := Lib.hid (HST.out w2 (HTT.out.2.1.mono bw2) ak j ck (gkeys bs) kx2 HKL.out hkle HKX.out)
          clear HCF1 bw kx b2 HST
          go_wp2_with (first | (at_make; refine Stop.un ?_) | (at_builtin; refine Stop.un ?_) | (with_reducible refine Stop.conv 22 9 ?_) | (with_reducible refine Stop.conv 9 22 ?_))
          refine HS.out.mono ?_
          rintro e w3 ⟨g3, rs, rfl, o3, hrs⟩
          have bw3 := bw2.next o3.below
          have kx3 := kx2.mono o3.below (Nat.le_refl _)
          have t3 := o3.tab
          have hrl : rs.length = rn := by
            have h2 := congrArg List.length hrs
            rw [List.length_map] at h2
            rw [h2]
            unfold sortL
            rw [sortB_length, List.length_map, HN.out.2.1]
          have hmem : ∀ r ∈ rs, fitL kinds r.l = true := fun r hr => by
            have h2 : r.l ∈ sortL (gkeys bs) (rows.map (·.l)) := hrs ▸ List.mem_map_of_mem hr
            obtain ⟨y, hy, e⟩ := List.mem_map.1 ((sortB_perm _ _).mem_iff.1 h2)
            rw [← e]
            exact HFIT.out y hy
          have hkok := kinds_ok HE.out.1
          have HCO : Hid ((∀ r ∈ rs, r.n = kn ∧ RowOk w3 r) ∧ (∀ c ∈ bs, 0 ≤ c ∧ c < kn) ∧ ∀ x ∈ ags, ∀ r ∈ rs, colOk x r) := Lib.hid (by
            have hrn : ∀ r ∈ rs, r.n = kn ∧ RowOk w3 r := fun r hr => ⟨by
              have h1 := fitL_len _ _ (hmem r hr)
              have h2 := (t3.ok r hr).len
              have h3 := HN.out.1
              omega, t3.ok r hr⟩
            refine ⟨hrn, fun c hc => ?_, fun x hx r hr => ?_⟩
            · have := isCol_iff (hkok.1 c hc)
              rw [HN.out.1] at this
              exact this
            · rcases agB_col (hkok.2.1 x hx) with h | h
              · exact .inl h
              · refine .inr ⟨h.1, ?_⟩
                rw [(hrn r hr).1]
                have := HN.out.1
                omega)
          have hb8 : j ≤ 8 := by have := HN.out.2.2.1; have := hkok.2.2.1; omega
          have hg8 : gn ≤ 8 := by have := HN.out.2.2.2.1; have := hkok.2.2.2; omega
          have HL := Lib.hid (And.intro kx3 (And.intro (HTT.out.2.2.1.mono bw3 (Nat.le_refl _)) (HTT.out.2.2.2.mono bw3 (Nat.le_refl _))))
          have HR2 : Hid (RES = tellAll bs ags (pend bs (rs.map (·.l)) (decide (0 = 0))) (([] : List Rw).map (·.l))) := Lib.hid (by rw [HR.out, hrs]; rfl)
          have HRL : Hid (rs.length = rn ∧ (∀ r ∈ rs, r ∈ rs) ∧ rn ≤ maxLen) := Lib.hid ⟨hrl, fun _ h => h, by unfold maxLen; omega⟩
          have HBS : Hid (bs.length = j ∧ ags.length = gn) := Lib.hid ⟨HN.out.2.2.1, HN.out.2.2.2.1⟩
          clear HS kx2 bw2 o3 hrs hmem hkok hrl HFIT HR kx3 HN HTT HE
          obtain ⟨wL, hwL⟩ : ∃ wL, wL = w3 := ⟨_, rfl⟩
          subst hwL
          have HBL := Lib.hid bw3
          clear bw3
          go_wp2_with (first | (at_make; refine Stop.un ?_) | (at_builtin; refine Stop.un ?_) | (with_reducible refine Stop.conv 22 9 ?_) | (with_reducible refine Stop.conv 9 22 ?_))
          go_loopw [15, 16] (fun rv ov wr => ∃ (rb : Option Addr) (m cr : Nat) (rest : List Rw) (ao : Option Addr) (N co : Nat) (outs : List Rw), rv = .slice rb m cr ∧ ov = .slice ao N co ∧ m ≤ cr ∧ N + m ≤ rn + 1 ∧ Tab wL rb rest ∧ OutM wL wr (.slice ao N co) N outs ∧ Hid (rest.length = m ∧ (∀ r ∈ rest, r ∈ rs) ∧ cr ≤ maxLen) ∧ Hid (RES = tellAll bs ags (pend bs (rest.map (·.l)) (decide (N = 0))) (outs.map (·.l)))) (fun rv ov _ => lenV rv + (1 - lenV ov))
          case atStart => exact ⟨_, rn, rn, rs, none, 0, 0, [], rfl, rfl, Nat.le_refl _, by omega, t3, OutM.nil (Below.refl _ _), HRL, HR2⟩
          case round =>
            clear HRL HR2 t3
            obtain ⟨rb, m, cr, rest, ao, N, co, outs, rfl, rfl, hmc, hNm, tR, M, HRL, HR⟩ := hrel
            have hcrm : cr ≤ 9223372036854775807 := HRL.out.2.2
            have hole := owns_le M.O.1
            have homx : co ≤ 9223372036854775807 := owns_max M.O.1
            by_cases hm0 : 0 < m
            · have hm0d : decide ((0 : Int) < (m : Int)) = true := decide_eq_true (by omega)
              cases rest with
              | nil => have h9 : (0 : Nat) = m := HRL.out.1; omega
              | cons r0 tl =>
                obtain ⟨b, o, rfl⟩ := tR.cs.addr (by rw [rwcells_length, List.length_cons]; omega)
                have HTR := Lib.hid tR
                clear tR
                go_upto_block 4 with fail
                have HC := Lib.hid (fun (r : Rw) W o1 o2 kx => ocompare_any r0.a r0.n r0.cap r0.l r.a r.n r.cap r.l ak j ck (gkeys bs) W o1 o2 kx HKL.out hkle HKX.out)
                have bwL := Own.below M.O
                go_cut [17] from 64 to 81 (fun nv wx => ∃ n : Nat, n ≤ m ∧ nv = .int .i64 (n : Int) ∧ OutM wL wx (.slice ao N co) N outs ∧ Hid (((r0 :: tl).map (·.l)).take n = ((r0 :: tl).map (·.l)).takeWhile (eqK (gkeys bs) r0.l)) ∧ Hid (((r0 :: tl).map (·.l)).drop n = ((r0 :: tl).map (·.l)).dropWhile (eqK (gkeys bs) r0.l)))
                case first =>
                  go_wp2_with fail
                  go_loopw [17] (fun nv wr => ∃ n : Nat, n ≤ m ∧ nv = .int .i64 (n : Int) ∧ OutM wL wr (.slice ao N co) N outs ∧ Hid (∀ i (h : i < (r0 :: tl).length), i < n → eqK (gkeys bs) r0.l (r0 :: tl)[i].l = true)) (fun nv _ => m - (intOf nv).toNat)
                  case atStart => exact ⟨0, Nat.zero_le _, rfl, M, Lib.hid (fun i h hi => absurd hi (by omega))⟩
                  case round =>
                    clear M bwL
                    obtain ⟨n, hn, rfl, M, HQ⟩ := hrel
                    by_cases hnm : n < m
                    · have bw := Own.below M.O
                      have t2 := HTR.out.mono bw
                      have x0 := t2.at (i := 0) (by simp)
                      rw [Nat.add_zero] at x0
                      have hnl : n < (r0 :: tl).length := by have := HRL.out.1; omega
                      have xn := t2.at hnl
                      have o1 := t2.ok r0 List.mem_cons_self
                      have o2 := t2.ok _ (List.getElem_mem hnl)
                      have kx := HL.out.1.mono bw (Nat.le_refl _)
                      have HQ2 : Hid (eqK (gkeys bs) r0.l (r0 :: tl)[n].l = true → ∀ i (h : i < (r0 :: tl).length), i < n + 1 → eqK (gkeys bs) r0.l (r0 :: tl)[i].l = true) := Lib.hid (fun h i hi hin => by
                        by_cases e : i = n
                        · subst e; exact h
                        · exact HQ.out i hi (by omega))
                      have HQ3 : Hid (eqK (gkeys bs) r0.l (r0 :: tl)[n].l = false → ((r0 :: tl).map (·.l)).take n = ((r0 :: tl).map (·.l)).takeWhile (eqK (gkeys bs) r0.l) ∧ ((r0 :: tl).map (·.l)).drop n = ((r0 :: tl).map (·.l)).dropWhile (eqK (gkeys bs) r0.l)) := Lib.hid (fun h => tw_len _ _ n (by rw [List.length_map]; omega) (fun i hi hin => by rw [List.getElem_map]; exact HQ.out i (by rw [List.length_map] at hi; exact hi) hin) (.inr ⟨by rw [List.length_map]; exact hnl, by rw [List.getElem_map]; exact h⟩))
                      have hx0 : (r0 :: tl)[0] = r0 := rfl
                      rw [hx0] at x0
                      generalize (r0 :: tl)[n] = rn' at xn o2 HQ2 HQ3
                      clear hx0 hnl t2 bw
                      have hdn : decide (n < m) = true := decide_eq_true hnm
                      have HE0 : Hid (eqK (gkeys bs) r0.l rn'.l = decide (cmpR r0.l rn'.l (gkeys bs) = 0)) := Lib.hid rfl
                      have HC1 := Lib.hid (HC.out rn')
                      generalize cmpR r0.l rn'.l (gkeys bs) = cc at HE0 HC1
                      go_upto_region 16 with fail
                      refine mix_startE 16 rfl (by kernel_rfl) ?_
                      intro xq hxq
                      replace x0 := Ext.cell hxq x0
                      replace xn := Ext.cell hxq xn
                      replace o1 := RowOk.mono o1 hxq
                      replace o2 := RowOk.mono o2 hxq
                      replace kx := Cs.mono kx hxq (Nat.le_refl _)
                      replace M := OutM.below M hxq
                      clear hxq
                      refine mix_quiet Keeps.ext 0 rfl (by kernel_rfl) rfl ?_
                      intro ι U hne hU
                      go_big_quiet_op
                      clear hU hne U ι
                      show wpAnyM _ _ _ _ _ _ _ _ _
                      refine mix_quiet Keeps.ext 1 rfl (by kernel_rfl) rfl ?_
                      intro ι U hne hU
                      go_big_quiet_op
                      clear hU hne U ι
                      show wpAnyM _ _ _ _ _ _ _ _ _
                      refine mix_quiet Keeps.ext 2 rfl (by kernel_rfl) rfl ?_
                      intro ι U hne hU
                      go_big_quiet_op
                      clear hU hne U ι
                      show wpAnyM _ _ _ _ _ _ _ _ _
                      refine mix_quiet Keeps.ext 3 rfl (by kernel_rfl) rfl ?_
                      intro ι U hne hU
                      go_big_quiet_op
                      clear hU hne U ι
                      show wpAnyM _ _ _ _ _ _ _ _ _
                      refine mix_quiet Keeps.ext 4 rfl (by kernel_rfl) rfl ?_
                      intro ι U hne hU
                      go_big_quiet_op
                      clear hU hne U ι
                      show wpAnyM _ _ _ _ _ _ _ _ _
                      refine mix_quiet Keeps.ext 5 rfl (by kernel_rfl) rfl ?_
                      intro ι U hne hU
                      go_big_quiet_op
                      clear hU hne U ι
                      show wpAnyM _ _ _ _ _ _ _ _ _
                      refine mix_quiet Keeps.ext 6 rfl (by kernel_rfl) rfl ?_
                      intro ι U hne hU
                      go_big_quiet_op
                      clear hU hne U ι
                      show wpAnyM _ _ _ _ _ _ _ _ _
                      refine mix_quiet Keeps.ext 7 rfl (by kernel_rfl) rfl ?_
                      intro ι U hne hU
                      have hcw0 := fun ii => (hU ii).cell x0
                      have hcw1 := fun ii => (hU ii).cell xn
                      go_big_quiet_op
                      clear hU hne hcw0 hcw1 U ι
                      show wpAnyM _ _ _ _ _ _ _ _ _
                      refine mix_quiet Keeps.ext 8 rfl (by kernel_rfl) rfl ?_
                      intro ι U hne hU
                      go_big_quiet_op
                      clear hU hne U ι
                      show wpAnyM _ _ _ _ _ _ _ _ _
                      refine mix_quiet Keeps.ext 9 rfl (by kernel_rfl) rfl ?_
                      intro ι U hne hU
                      go_big_quiet_op
                      clear hU hne U ι
                      show wpAnyM _ _ _ _ _ _ _ _ _
                      refine mix_quiet Keeps.ext 10 rfl (by kernel_rfl) rfl ?_
                      intro ι U hne hU
                      go_big_quiet_op
                      clear hU hne U ι
                      show wpAnyM _ _ _ _ _ _ _ _ _
                      refine mix_quiet Keeps.ext 11 rfl (by kernel_rfl) rfl ?_
                      intro ι U hne hU
                      have hcw0 := fun ii => (hU ii).cell x0
                      have hcw1 := fun ii => (hU ii).cell xn
                      go_big_quiet_op
                      clear hU hne hcw0 hcw1 U ι
                      show wpAnyM _ _ _ _ _ _ _ _ _
                      refine mix_quiet Keeps.ext 12 rfl (by kernel_rfl) rfl ?_
                      intro ι U hne hU
                      go_big_quiet_op
                      clear hU hne U ι
                      show wpAnyM _ _ _ _ _ _ _ _ _
                      refine mix_any 13 rfl (by kernel_rfl) rfl ?_
                      go_wp2_with (first | (at_make; refine Stop.un ?_) | (at_builtin; refine Stop.un ?_) | (with_reducible refine Stop.conv 22 9 ?_) | (with_reducible refine Stop.conv 9 22 ?_))
                      refine (HC1.out _ o1 o2 kx).mono ?_
                      rintro e wq1 ⟨rfl, bq1⟩
                      go_wp2_with (first | (at_make; refine Stop.un ?_) | (at_builtin; refine Stop.un ?_) | (with_reducible refine Stop.conv 22 9 ?_) | (with_reducible refine Stop.conv 9 22 ?_))
                      refine MixPost.mk bq1 ?_
                      replace x0 := Ext.cell bq1 x0
                      replace xn := Ext.cell bq1 xn
                      replace o1 := RowOk.mono o1 bq1
                      replace o2 := RowOk.mono o2 bq1
                      replace kx := Cs.mono kx bq1 (Nat.le_refl _)
                      replace M := OutM.below M bq1
                      clear bq1
                      refine mix_quiet Keeps.ext 14 rfl (by kernel_rfl) rfl ?_
                      intro ι U hne hU
                      go_big_quiet_op
                      clear hU hne U ι
                      show wpAnyM _ _ _ _ _ _ _ _ _
                      refine mix_quiet Keeps.ext 15 rfl (by kernel_rfl) rfl ?_
                      intro ι U hne hU
                      go_big_quiet_op
                      clear hU hne U ι
                      show wpAnyM _ _ _ _ _ _ _ _ _
                      refine mix_end (by kernel_rfl) ?_
                      by_cases hc0 : cc = 0
                      ·
                        have hcb : (cc == 0) = true := by simpa using hc0
                        have HQN := Lib.hid (HQ2.out (by rw [HE0.out]; exact decide_eq_true hc0))
                        clear hc0 HQ HQ2 HQ3 HE0 HC1 x0 xn o1 o2 kx
                        go_wp2_with (first | (at_make; refine Stop.un ?_) | (at_builtin; refine Stop.un ?_) | (with_reducible refine Stop.conv 22 9 ?_) | (with_reducible refine Stop.conv 9 22 ?_))
                        go_roundw
                        case rel => exact ⟨n + 1, by omega, by go_num, M, HQN⟩
                        case measure => simp [intOf]; omega
                      ·
                        have hcb : (cc == 0) = false := by simpa using hc0
                        have HQN := Lib.hid (HQ3.out (by rw [HE0.out]; exact decide_eq_false hc0))
                        clear hc0 HQ HQ2 HQ3 HE0 HC1 x0 xn o1 o2 kx
                        go_wp2_with (first | (at_make; refine Stop.un ?_) | (at_builtin; refine Stop.un ?_) | (with_reducible refine Stop.conv 22 9 ?_) | (with_reducible refine Stop.conv 9 22 ?_))
                        trace_state
                        go_meet
                        exact ⟨n, hn, rfl, M, Lib.hid HQN.out.1, Lib.hid HQN.out.2⟩
                    · obtain rfl : n = m := by omega
                      have HQN := Lib.hid (tw_len (eqK (gkeys bs) r0.l) ((r0 :: tl).map (·.l)) n (by rw [List.length_map, HRL.out.1]; exact Nat.le_refl _) (fun i hi hin => by rw [List.getElem_map]; exact HQ.out i (by rw [List.length_map] at hi; exact hi) hin) (.inl (by rw [List.length_map, HRL.out.1])))
                      clear HQ HC
                      have hdn : decide (n < n) = false := decide_eq_false (by omega)
                      go_upto_region 16 with fail
                      refine mix_startE 16 rfl (by kernel_rfl) ?_
                      intro xq hxq
                      replace M := OutM.below M hxq
                      clear hxq
                      refine mix_quiet Keeps.ext 0 rfl (by kernel_rfl) rfl ?_
                      intro ι U hne hU
                      go_big_quiet_op
                      clear hU hne U ι
                      show wpAnyM _ _ _ _ _ _ _ _ _
                      refine mix_quiet Keeps.ext 1 rfl (by kernel_rfl) rfl ?_
                      intro ι U hne hU
                      go_big_quiet_op
                      clear hU hne U ι
                      show wpAnyM _ _ _ _ _ _ _ _ _
                      refine mix_quiet Keeps.ext 2 rfl (by kernel_rfl) rfl ?_
                      intro ι U hne hU
                      go_big_quiet_op
                      clear hU hne U ι
                      show wpAnyM _ _ _ _ _ _ _ _ _
                      refine mix_quiet Keeps.ext 3 rfl (by kernel_rfl) rfl ?_
                      intro ι U hne hU
                      go_big_quiet_op
                      clear hU hne U ι
                      show wpAnyM _ _ _ _ _ _ _ _ _
                      refine mix_quiet Keeps.ext 4 rfl (by kernel_rfl) rfl ?_
                      intro ι U hne hU
                      go_big_quiet_op
                      clear hU hne U ι
                      show wpAnyM _ _ _ _ _ _ _ _ _
                      refine mix_skip Keeps.ext 5 rfl (by kernel_rfl) rfl ?_
                      go_big_quiet_skip
                      refine wpQuiet_nil ?_
                      show wpAnyM _ _ _ _ _ _ _ _ _
                      refine mix_skip Keeps.ext 6 rfl (by kernel_rfl) rfl ?_
                      go_big_quiet_skip
                      refine wpQuiet_nil ?_
                      show wpAnyM _ _ _ _ _ _ _ _ _
                      refine mix_skip Keeps.ext 7 rfl (by kernel_rfl) rfl ?_
                      go_big_quiet_skip
                      refine wpQuiet_nil ?_
                      show wpAnyM _ _ _ _ _ _ _ _ _
                      refine mix_skip Keeps.ext 8 rfl (by kernel_rfl) rfl ?_
                      go_big_quiet_skip
                      refine wpQuiet_nil ?_
                      show wpAnyM _ _ _ _ _ _ _ _ _
                      refine mix_skip Keeps.ext 9 rfl (by kernel_rfl) rfl ?_
                      go_big_quiet_skip
                      refine wpQuiet_nil ?_
                      show wpAnyM _ _ _ _ _ _ _ _ _
                      refine mix_skip Keeps.ext 10 rfl (by kernel_rfl) rfl ?_
                      go_big_quiet_skip
                      refine wpQuiet_nil ?_
                      show wpAnyM _ _ _ _ _ _ _ _ _
                      refine mix_skip Keeps.ext 11 rfl (by kernel_rfl) rfl ?_
                      go_big_quiet_skip
                      refine wpQuiet_nil ?_
                      show wpAnyM _ _ _ _ _ _ _ _ _
                      refine mix_skip Keeps.ext 12 rfl (by kernel_rfl) rfl ?_
                      go_big_quiet_skip
                      refine wpQuiet_nil ?_
                      show wpAnyM _ _ _ _ _ _ _ _ _
                      refine mix_skip Keeps.ext 13 rfl (by kernel_rfl) rfl ?_
                      go_big_quiet_skip
                      refine wpQuiet_nil ?_
                      show wpAnyM _ _ _ _ _ _ _ _ _
                      refine mix_skip Keeps.ext 14 rfl (by kernel_rfl) rfl ?_
                      go_big_quiet_skip
                      refine wpQuiet_nil ?_
                      show wpAnyM _ _ _ _ _ _ _ _ _
                      refine mix_quiet Keeps.ext 15 rfl (by kernel_rfl) rfl ?_
                      intro ι U hne hU
                      go_big_quiet_op
                      clear hU hne U ι
                      show wpAnyM _ _ _ _ _ _ _ _ _
                      refine mix_end (by kernel_rfl) ?_
                      go_wp2_with (first | (at_make; refine Stop.un ?_) | (at_builtin; refine Stop.un ?_) | (with_reducible refine Stop.conv 22 9 ?_) | (with_reducible refine Stop.conv 9 22 ?_))
                      go_meet
                      exact ⟨n, hn, rfl, M, Lib.hid HQN.out.1, Lib.hid HQN.out.2⟩
                case rest =>
                  clear M bwL HC
                  obtain ⟨n, hnm, rfl, M, HTW, HDW⟩ := hcut
                  have HG : Hid (pend bs ((r0 :: tl).map (·.l)) (decide (N = 0)) = ((r0 :: tl).map (·.l)).take n :: runs (gkeys bs) (((r0 :: tl).map (·.l)).drop n)) := Lib.hid (by rw [HTW.out, HDW.out]; exact pend_cons _ _ _ _)
                  have hn1 : 0 < n := by
                    rcases Nat.eq_zero_or_pos n with h | h
                    · exfalso
                      have h2 := HTW.out
                      rw [h, List.take_zero, List.map_cons, tw_pos] at h2
                      cases h2
                    · exact h
                  have HH : Hid ((((r0 :: tl).map (·.l)).take n).headD [] = r0.l) := Lib.hid (by
                    cases n with
                    | zero => omega
                    | succ k => rfl)
                  have HRR := Lib.hid (And.intro (HRL.out.2.1 r0 List.mem_cons_self) (And.intro (HCO.out.1 r0 (HRL.out.2.1 r0 List.mem_cons_self)).1 HCO.out.2.1))
                  clear HTW HDW
                  have hS : OwnV wc (wc.alloc (.cells #[] 38)) (.slice (some ⟨wc.heap.size, 0, none⟩) 0 0) 0 [] := Own.block (Below.refl _ _) rfl (by decide)
                  have hS2 : OwnV wc (wc.alloc (.cells #[] 38)) (.slice (some ⟨wc.heap.size, 0, none⟩) 0 0) 0 ((bs.take 0).map (atV r0.l)) := hS
                  clear hS
                  have HMC := Lib.hid M
                  go_wp2_with (first | (at_make; refine Stop.un ?_) | (at_builtin; refine Stop.un ?_) | (with_reducible refine Stop.conv 22 9 ?_) | (with_reducible refine Stop.conv 9 22 ?_))
                  go_loopw [85, 18] (fun iv hv wr => ∃ (i g c : Nat), i ≤ j ∧ iv = .int .i64 (i : Int) ∧ hv = .slice (some ⟨g, 0, none⟩) i c ∧ OwnV wc wr (.slice (some ⟨g, 0, none⟩) i c) i ((bs.take i).map (atV r0.l))) (fun iv _ _ => j - (intOf iv).toNat)
                  case atStart => exact ⟨0, _, 0, Nat.zero_le _, rfl, rfl, hS2⟩
                  case round =>
                    clear hS2 M
                    obtain ⟨i, g, c, hi, rfl, rfl, O⟩ := hrel
                    by_cases hij : i < j
                    · have M := HMC.out.below (Own.below O)
                      have bw := Own.below M.O
                      have hil : i < bs.length := by have := HBS.out.1; omega
                      have hb := HL.out.2.1.mono bw (Nat.le_refl _)
                      obtain ⟨bb, bo, rfl⟩ := hb.addr (by rw [icells_length]; omega)
                      have z0 : wr.cell? ⟨bb, bo + i, none⟩ = some (.int .i64 bs[i]) := hb.at (by simp [icells, hil])
                      obtain ⟨hc0, hc1⟩ := HRR.out.2.2 bs[i] (List.getElem_mem _)
                      have HT : Hid ((bs.take (i + 1)).map (atV r0.l) = (bs.take i).map (atV r0.l) ++ [atV r0.l bs[i]]) := Lib.hid (by rw [List.take_succ_eq_append_getElem hil, List.map_append]; rfl)
                      generalize bs[i] = col at z0 hc0 hc1 HT
                      obtain ⟨cc, rfl⟩ := Int.eq_ofNat_of_zero_le hc0
                      have t2 := HTR.out.mono bw
                      have x0 := t2.at (i := 0) (by simp)
                      rw [Nat.add_zero] at x0
                      replace x0 : wr.cell? ⟨b, o, none⟩ = some (.slice r0.a r0.n r0.cap) := x0
                      have o1 := t2.ok r0 List.mem_cons_self
                      have hcr : cc < r0.l.length := by have h1 := o1.len; have h2 := HRR.out.2.1; omega
                      have hcn : cc < r0.n := by have h2 := HRR.out.2.1; omega
                      obtain ⟨vb, vo, hra⟩ := o1.cs.addr (by rw [vcells_length]; omega)
                      have ocs := o1.cs
                      rw [hra] at x0 ocs
                      obtain ⟨q0, q1, q2⟩ := ocs.vat hcr
                      rw [atV_in hcr] at HT
                      generalize r0.l[cc] = v at q0 q1 q2 HT
                      obtain ⟨vk, vn, vs⟩ := v
                      simp only at q0 q1 q2
                      have hrle := o1.le
                      have hrmx : r0.cap ≤ 9223372036854775807 := o1.max
                      have xl := lt_cell x0
                      have ql := lt_cell q0
                      have zl := lt_cell z0
                      clear hb t2 o1 ocs hcr hra hc0 hc1 hil M bw
                      go_wp2_with (first | (at_make; refine Stop.un ?_) | (at_builtin; refine Stop.un ?_) | (with_reducible refine Stop.conv 22 9 ?_) | (with_reducible refine Stop.conv 9 22 ?_))
                      refine Stop.mk (app_rv1 (c := ⟨vk, vn, vs⟩) wc _ _ rfl rfl O rfl rfl (by omega) ?_)
                      intro g5 c5 w5 O5 _ _
                      rw [← HT.out] at O5
                      clear O HT q0 q1 q2 x0 z0 xl ql zl
                      go_wp2_with (first | (at_make; refine Stop.un ?_) | (at_builtin; refine Stop.un ?_) | (with_reducible refine Stop.conv 22 9 ?_) | (with_reducible refine Stop.conv 9 22 ?_))
                      go_roundw
                      case rel => exact ⟨i + 1, g5, c5, by omega, by go_num, rfl, O5⟩
                      case measure => simp [intOf]; omega
                    · obtain rfl : i = j := by omega
                      have hO : (bs.take i).map (atV r0.l) = hdOf bs ((((r0 :: tl).map (·.l)).take n).headD []) := by
                        rw [HH.out, List.take_of_length_le (by have := HBS.out.1; omega)]; rfl
                      rw [hO] at O
                      have M := HMC.out.below (Own.below O)
                      generalize hrest : r0 :: tl = rest at HG HH HTR HRL O HR
                      clear hO HH HRR HMC hij
                      clear hrest
                      have bw := Own.below M.O
                      have tG := (HTR.out.mono bw).take n
                      have hgl : (rest.take n).length = n := by rw [List.length_take]; have := HRL.out.1; omega
                      have hTD := gtold_any (some ⟨g, 0, none⟩) i c (hdOf bs (((rest.map (fun (x : Rw) => x.l)).take n).headD [])) (some ⟨b, o, none⟩) n cr (rest.take n) ga gn gc ags wr (Own.cs O) (OwnV.length O) (by omega) tG hgl (by omega) (by unfold maxLen; omega) (by omega) (HL.out.2.2.mono bw (Nat.le_refl _)) HBS.out.2 m4 (by unfold maxLen; omega) s4 (fun x hx r hr => HCO.out.2.2 x hx r (HRL.out.2.1 r (List.mem_of_mem_take hr)))
                      rw [List.map_take] at hTD
                      have HTD := Lib.hid hTD
                      have HTA : Hid (tellAll bs ags (pend bs (rest.map (fun (x : Rw) => x.l)) (decide (N = 0))) (outs.map (·.l)) = if (tldB ((rest.map (fun (x : Rw) => x.l)).take n) (hdOf bs (((rest.map (fun (x : Rw) => x.l)).take n).headD [])) ags).1 = 0 then tellAll bs ags (runs (gkeys bs) ((rest.map (fun (x : Rw) => x.l)).drop n)) (outs.map (·.l) ++ [(tldB ((rest.map (fun (x : Rw) => x.l)).take n) (hdOf bs (((rest.map (fun (x : Rw) => x.l)).take n).headD [])) ags).2]) else ((tldB ((rest.map (fun (x : Rw) => x.l)).take n) (hdOf bs (((rest.map (fun (x : Rw) => x.l)).take n).headD [])) ags).1, [])) := Lib.hid (by rw [HG.out]; rfl)
                      have HKN : Hid (∀ v ∈ (tldB ((rest.map (fun (x : Rw) => x.l)).take n) (hdOf bs (((rest.map (fun (x : Rw) => x.l)).take n).headD [])) ags).2, 0 ≤ v.k) := Lib.hid (by
                        have hrk : ∀ r ∈ rest.map (·.l), ∀ v ∈ r, 0 ≤ v.k := fun r hr v hv => by
                          obtain ⟨y, hy, rfl⟩ := List.mem_map.1 hr
                          exact (HTR.out.ok y hy).kind v hv
                        have htk : ∀ r ∈ (rest.map (fun (x : Rw) => x.l)).take n, ∀ v ∈ r, 0 ≤ v.k := fun r hr => hrk r (List.mem_of_mem_take hr)
                        refine tld_kind _ htk ags _ (fun v hv => ?_)
                        obtain ⟨cx, _, rfl⟩ := List.mem_map.1 hv
                        refine atV_kind (fun u hu => ?_) _
                        cases hq : (rest.map (fun (x : Rw) => x.l)).take n with
                        | nil => rw [hq] at hu; cases hu
                        | cons y ys => rw [hq] at hu; exact htk y (by rw [hq]; exact List.mem_cons_self) u hu)
                      skip
                      have HR2 : Hid (RES = _) := Lib.hid (HR.out.trans HTA.out)
                      generalize tldB ((rest.map (fun (x : Rw) => x.l)).take n) (hdOf bs (((rest.map (fun (x : Rw) => x.l)).take n).headD [])) ags = res at HTD HR2 HKN
                      clear hTD tG hgl HG O HR HTA bw
                      have hnc : n ≤ cr := by omega
                      go_wp2_with (first | (at_make; refine Stop.un ?_) | (at_builtin; refine Stop.un ?_) | (with_reducible refine Stop.conv 22 9 ?_) | (with_reducible refine Stop.conv 9 22 ?_))
                      refine HTD.out.mono ?_
                      rintro e9 w9 hret
                      clear HTD
                      rcases hret with ⟨g9, n9, c9, rfl, hr0, O9⟩ | ⟨er, rfl, hre, hre0, b9⟩
                      ·
                        have HR3 : Hid (RES = tellAll bs ags (runs (gkeys bs) ((rest.map (fun (x : Rw) => x.l)).drop n)) (outs.map (·.l) ++ [res.2])) := Lib.hid (by rw [HR2.out, if_pos hr0])
                        have M9 := M.below (Own.below O9)
                        have ro := rw_ownG O9 HKN.out
                        have fz : Fz w9 ⟨some ⟨g9, 0, none⟩, n9, c9, res.2⟩ := Fz.own O9
                        have HRB : Hid (∀ a, (⟨some ⟨g9, 0, none⟩, n9, c9, res.2⟩ : Rw).a = some a → wL.heap.size ≤ a.block ∧ a.block < w9.heap.size ∧ (Value.slice ao N co).ownBlock ≠ some a.block) := Lib.hid (fun a ha => by
                          obtain rfl := Option.some.inj ha
                          have h1 := Own.ge O9 g9 rfl
                          have h2 := Own.lt O9 g9 rfl
                          have h3 := Own.le M.O
                          exact ⟨by simp only; omega, h2, fun e => by have := Own.lt M.O _ e; simp only at this; omega⟩)
                        have hr9 := owns_le O9.1
                        have hr9m : c9 ≤ 9223372036854775807 := owns_max O9.1
                        clear M O9 HR2 hr0
                        generalize res.2 = rl at HR3 HKN ro fz HRB
                        go_upto_region 27 with fail
                        refine mix_startN 9 rfl (by kernel_rfl) ?_
                        intro xq hxq
                        replace M9 := M9.below hxq
                        replace ro := ro.mono hxq
                        replace fz := fz.mono hxq
                        replace HRB : Hid (∀ a, (⟨some ⟨g9, 0, none⟩, n9, c9, rl⟩ : Rw).a = some a → wL.heap.size ≤ a.block ∧ a.block < xq.heap.size ∧ (Value.slice ao N co).ownBlock ≠ some a.block) := Lib.hid (fun a ha => ⟨(HRB.out a ha).1, Nat.lt_of_lt_of_le (HRB.out a ha).2.1 hxq.size, (HRB.out a ha).2.2⟩)
                        clear hxq
                        refine mix_quiet Keeps.any 0 rfl (by kernel_rfl) rfl ?_
                        intro ι U hne hU
                        go_big_quiet_op
                        clear hU hne U ι
                        show wpAnyM _ _ _ _ _ _ _ _ _
                        refine mix_quiet Keeps.any 1 rfl (by kernel_rfl) rfl ?_
                        intro ι U hne hU
                        go_big_quiet_op
                        clear hU hne U ι
                        show wpAnyM _ _ _ _ _ _ _ _ _
                        refine mix_quiet Keeps.any 4 rfl (by kernel_rfl) rfl ?_
                        intro ι U hne hU
                        go_big_quiet_op
                        clear hU hne U ι
                        show wpAnyM _ _ _ _ _ _ _ _ _
                        refine mix_quiet Keeps.any 5 rfl (by kernel_rfl) rfl ?_
                        intro ι U hne hU
                        go_big_quiet_op
                        clear hU hne U ι
                        show wpAnyM _ _ _ _ _ _ _ _ _
                        refine mix_quiet Keeps.any 6 rfl (by kernel_rfl) rfl ?_
                        intro ι U hne hU
                        refine quiet_as _ (exec_cutR (some ⟨b, o, none⟩) m cr n rfl rfl hnm hmc) (hne.elim fun ii => ⟨_, ii, rfl⟩) ?_
                        go_big_quiet_op
                        clear hU hne U ι
                        show wpAnyM _ _ _ _ _ _ _ _ _
                        have HAD := Lib.hid (fun (W : World) (hc : Cs W (some ⟨b, o, none⟩) (rwcells rest)) => hc.rcut n cr (by have := HRL.out.1; omega))
                        generalize hA7 : (if cr = n then ((some ⟨b, o, none⟩) : Option Addr) else ((some ⟨b, o, none⟩) : Option Addr).map fun x => x.add n) = a7 at HAD ⊢
                        clear hA7
                        refine mix_any 2 rfl (by kernel_rfl) rfl ?_
                        go_wp2_with (first | (at_make; refine Stop.un ?_) | (at_builtin; refine Stop.un ?_) | (with_reducible refine Stop.conv 22 9 ?_) | (with_reducible refine Stop.conv 9 22 ?_))
                        refine MixPost.mk (True.intro : AnyW _ _) ?_
                        refine mix_any 3 rfl (by kernel_rfl) rfl ?_
                        go_wp2_with (first | (at_make; refine Stop.un ?_) | (at_builtin; refine Stop.un ?_) | (with_reducible refine Stop.conv 22 9 ?_) | (with_reducible refine Stop.conv 9 22 ?_))
                        refine Stop.mk (app_rw1 (r := ⟨some ⟨g9, 0, none⟩, n9, c9, rl⟩) wL _ _ rfl rfl M9.O rfl rfl (by omega) ?_)
                        intro a8 c8 w8 O8 g8 k8
                        go_wp2_with (first | (at_make; refine Stop.un ?_) | (at_builtin; refine Stop.un ?_) | (with_reducible refine Stop.conv 22 9 ?_) | (with_reducible refine Stop.conv 9 22 ?_))
                        refine MixPost.mk (True.intro : AnyW _ _) ?_
                        have M8 := M9.push ro fz HRB.out O8 g8 k8
                        clear M9 ro fz HRB O8 g8 k8 HKN hr9 hr9m
                        refine mix_quiet Keeps.any 7 rfl (by kernel_rfl) rfl ?_
                        intro ι U hne hU
                        go_big_quiet_op
                        clear hU hne U ι
                        show wpAnyM _ _ _ _ _ _ _ _ _
                        refine mix_quiet Keeps.any 8 rfl (by kernel_rfl) rfl ?_
                        intro ι U hne hU
                        go_big_quiet_op
                        clear hU hne U ι
                        show wpAnyM _ _ _ _ _ _ _ _ _
                        refine mix_end (by kernel_rfl) ?_
                        have tR2 : Tab wL a7 (rest.drop n) := ⟨HAD.out wL HTR.out.cs, fun r hr => HTR.out.ok r (List.mem_of_mem_drop hr)⟩
                        have HRL2 : Hid ((rest.drop n).length = m - n ∧ (∀ r ∈ rest.drop n, r ∈ rs) ∧ cr - n ≤ maxLen) := Lib.hid ⟨by rw [List.length_drop, HRL.out.1], fun r hr => HRL.out.2.1 r (List.mem_of_mem_drop hr), by have := HRL.out.2.2; omega⟩
                        have HR4 : Hid (RES = tellAll bs ags (pend bs ((rest.drop n).map (·.l)) (decide (N + 1 = 0))) ((outs ++ [(⟨some ⟨g9, 0, none⟩, n9, c9, rl⟩ : Rw)]).map (·.l))) := Lib.hid (by rw [HR3.out, decide_eq_false (by omega), pend_done, List.map_append, List.map_drop]; rfl)
                        clear HR3 HRL HTR HAD
                        go_wp2_with (first | (at_make; refine Stop.un ?_) | (at_builtin; refine Stop.un ?_) | (with_reducible refine Stop.conv 22 9 ?_) | (with_reducible refine Stop.conv 9 22 ?_))
                        go_roundw
                        case rel => exact ⟨a7, m - n, cr - n, rest.drop n, a8, N + 1, c8, _, rfl, rfl, by omega, by omega, tR2, M8, HRL2, HR4⟩
                        case measure => simp [lenV]; omega
                      ·
                        have HR3 : Hid (RES = (er, [])) := Lib.hid (by rw [HR2.out, if_neg (by rw [hre]; exact hre0), hre])
                        have hern : (er != 0) = true := by simpa using hre0
                        have bE := (HBL.out.next (Own.below M.O)).next b9
                        clear HR2 hre hre0 b9 M HKN
                        go_wp2_with (first | (at_make; refine Stop.un ?_) | (at_builtin; refine Stop.un ?_) | (with_reducible refine Stop.conv 22 9 ?_) | (with_reducible refine Stop.conv 9 22 ?_))
                        exact bodyPost_ret (v := .tuple #[.slice none 0 0, .int .i64 er]) (by simp [results, Try.results11, go_sem]) rfl ⟨none, 0, 0, [], by rw [HR3.out], OutM.nil bE, by rw [HR3.out]; rfl⟩
            · obtain rfl : m = 0 := by omega
              have hre : rest = [] := List.eq_nil_of_length_eq_zero HRL.out.1
              subst hre
              by_cases hb : j = 0 ∧ N = 0
              · obtain ⟨hj0, hN0⟩ := hb
                have HBE : Hid (bs = []) := Lib.hid (List.eq_nil_of_length_eq_zero (by rw [HBS.out.1]; exact hj0))
                have HN0 := Lib.hid hN0
                have d1 : (j == 0) = true := by simpa using hj0
                have d2 : ((j : Int) == 0) = true := by simp; omega
                have d3 : (N == 0) = true := by simpa using hN0
                have d4 : ((N : Int) == 0) = true := by simp; omega
                have d5 : decide (0 < j) = false := decide_eq_false (by omega)
                have d6 : decide ((0 : Int) < (j : Int)) = false := decide_eq_false (by omega)
                obtain ⟨rest, hrest⟩ : ∃ rest : List Rw, rest = [] := ⟨_, rfl⟩
                rw [← hrest] at HR tR HRL
                have HG : Hid (pend bs (rest.map (fun (x : Rw) => x.l)) (decide (N = 0)) = (rest.map (fun (x : Rw) => x.l)).take 0 :: runs (gkeys bs) ((rest.map (fun (x : Rw) => x.l)).drop 0)) := Lib.hid (by
                  rw [hrest, HBE.out, decide_eq_true hN0]; rfl)
                have hN1 : N ≤ 0 := by omega
                clear hj0 hN0
                have HTR := Lib.hid tR
                have HRE := Lib.hid hrest
                have hdn : decide (0 < 0) = false := rfl
                clear tR hrest
                go_wp2_with fail
                refine wp_loop_rounds 1 ?_
                rw [rounds_succ]
                go_upto_region 16 with fail
                refine mix_startE 16 rfl (by kernel_rfl) ?_
                intro xq hxq
                replace M := OutM.below M hxq
                clear hxq
                refine mix_quiet Keeps.ext 0 rfl (by kernel_rfl) rfl ?_
                intro ι U hne hU
                go_big_quiet_op
                clear hU hne U ι
                show wpAnyM _ _ _ _ _ _ _ _ _
                refine mix_quiet Keeps.ext 1 rfl (by kernel_rfl) rfl ?_
                intro ι U hne hU
                go_big_quiet_op
                clear hU hne U ι
                show wpAnyM _ _ _ _ _ _ _ _ _
                refine mix_quiet Keeps.ext 2 rfl (by kernel_rfl) rfl ?_
                intro ι U hne hU
                go_big_quiet_op
                clear hU hne U ι
                show wpAnyM _ _ _ _ _ _ _ _ _
                refine mix_quiet Keeps.ext 3 rfl (by kernel_rfl) rfl ?_
                intro ι U hne hU
                go_big_quiet_op
                clear hU hne U ι
                show wpAnyM _ _ _ _ _ _ _ _ _
                refine mix_quiet Keeps.ext 4 rfl (by kernel_rfl) rfl ?_
                intro ι U hne hU
                go_big_quiet_op
                clear hU hne U ι
                show wpAnyM _ _ _ _ _ _ _ _ _
                refine mix_skip Keeps.ext 5 rfl (by kernel_rfl) rfl ?_
                go_big_quiet_skip
                refine wpQuiet_nil ?_
                show wpAnyM _ _ _ _ _ _ _ _ _
                refine mix_skip Keeps.ext 6 rfl (by kernel_rfl) rfl ?_
                go_big_quiet_skip
                refine wpQuiet_nil ?_
                show wpAnyM _ _ _ _ _ _ _ _ _
                refine mix_skip Keeps.ext 7 rfl (by kernel_rfl) rfl ?_
                go_big_quiet_skip
                refine wpQuiet_nil ?_
                show wpAnyM _ _ _ _ _ _ _ _ _
                refine mix_skip Keeps.ext 8 rfl (by kernel_rfl) rfl ?_
                go_big_quiet_skip
                refine wpQuiet_nil ?_
                show wpAnyM _ _ _ _ _ _ _ _ _
                refine mix_skip Keeps.ext 9 rfl (by kernel_rfl) rfl ?_
                go_big_quiet_skip
                refine wpQuiet_nil ?_
                show wpAnyM _ _ _ _ _ _ _ _ _
                refine mix_skip Keeps.ext 10 rfl (by kernel_rfl) rfl ?_
                go_big_quiet_skip
                refine wpQuiet_nil ?_
                show wpAnyM _ _ _ _ _ _ _ _ _
                refine mix_skip Keeps.ext 11 rfl (by kernel_rfl) rfl ?_
                go_big_quiet_skip
                refine wpQuiet_nil ?_
                show wpAnyM _ _ _ _ _ _ _ _ _
                refine mix_skip Keeps.ext 12 rfl (by kernel_rfl) rfl ?_
                go_big_quiet_skip
                refine wpQuiet_nil ?_
                show wpAnyM _ _ _ _ _ _ _ _ _
                refine mix_skip Keeps.ext 13 rfl (by kernel_rfl) rfl ?_
                go_big_quiet_skip
                refine wpQuiet_nil ?_
                show wpAnyM _ _ _ _ _ _ _ _ _
                refine mix_skip Keeps.ext 14 rfl (by kernel_rfl) rfl ?_
                go_big_quiet_skip
                refine wpQuiet_nil ?_
                show wpAnyM _ _ _ _ _ _ _ _ _
                refine mix_quiet Keeps.ext 15 rfl (by kernel_rfl) rfl ?_
                intro ι U hne hU
                go_big_quiet_op
                clear hU hne U ι
                show wpAnyM _ _ _ _ _ _ _ _ _
                refine mix_end (by kernel_rfl) ?_
                have hS : OwnV xq (xq.alloc (.cells #[] 38)) (.slice (some ⟨xq.heap.size, 0, none⟩) 0 0) 0 [] := Own.block (Below.refl _ _) rfl (by decide)
                have M2 := M.below (Own.below hS)
                go_upto_region 19 with fail
                have O : OwnV xq (xq.alloc (.cells #[] 38)) (.slice (some ⟨xq.heap.size, 0, none⟩) 0 0) 0 (hdOf bs (((rest.map (fun (x : Rw) => x.l)).take 0).headD [])) := by rw [HBE.out]; exact hS
                clear hS M
                have M := M2
                clear M2 HBE HRE
                generalize xq.alloc (.cells #[] 38) = wr at O M ⊢
                obtain ⟨g, hg⟩ : ∃ g, xq.heap.size = g := ⟨_, rfl⟩
                rw [hg] at O ⊢
                clear hg
                have hnm : (0 : Nat) ≤ 0 := Nat.le_refl 0
                have HWC := Lib.hid (Own.below O)
                go_wp2_with (first | (at_make; refine Stop.un ?_) | (at_builtin; refine Stop.un ?_) | (with_reducible refine Stop.conv 22 9 ?_) | (with_reducible refine Stop.conv 9 22 ?_))
                refine wp_loop_rounds 1 ?_
                rw [rounds_succ]
                go_upto_region 24 with fail
                have bw := Own.below M.O
                have tG := (HTR.out.mono bw).take 0
                have hgl : (rest.take 0).length = 0 := by rw [List.length_take]; have := HRL.out.1; omega
                have hTD := gtold_any (some ⟨g, 0, none⟩) 0 0 (hdOf bs (((rest.map (fun (x : Rw) => x.l)).take 0).headD [])) rb 0 cr (rest.take 0) ga gn gc ags wr (Own.cs O) (OwnV.length O) (by omega) tG hgl (by omega) (by unfold maxLen; omega) (by omega) (HL.out.2.2.mono bw (Nat.le_refl _)) HBS.out.2 m4 (by unfold maxLen; omega) s4 (fun x hx r hr => HCO.out.2.2 x hx r (HRL.out.2.1 r (List.mem_of_mem_take hr)))
                rw [List.map_take] at hTD
                have HTD := Lib.hid hTD
                have HTA : Hid (tellAll bs ags (pend bs (rest.map (fun (x : Rw) => x.l)) (decide (N = 0))) (outs.map (·.l)) = if (tldB ((rest.map (fun (x : Rw) => x.l)).take 0) (hdOf bs (((rest.map (fun (x : Rw) => x.l)).take 0).headD [])) ags).1 = 0 then tellAll bs ags (runs (gkeys bs) ((rest.map (fun (x : Rw) => x.l)).drop 0)) (outs.map (·.l) ++ [(tldB ((rest.map (fun (x : Rw) => x.l)).take 0) (hdOf bs (((rest.map (fun (x : Rw) => x.l)).take 0).headD [])) ags).2]) else ((tldB ((rest.map (fun (x : Rw) => x.l)).take 0) (hdOf bs (((rest.map (fun (x : Rw) => x.l)).take 0).headD [])) ags).1, [])) := Lib.hid (by rw [HG.out]; rfl)
                have HKN : Hid (∀ v ∈ (tldB ((rest.map (fun (x : Rw) => x.l)).take 0) (hdOf bs (((rest.map (fun (x : Rw) => x.l)).take 0).headD [])) ags).2, 0 ≤ v.k) := Lib.hid (by
                  have hrk : ∀ r ∈ rest.map (·.l), ∀ v ∈ r, 0 ≤ v.k := fun r hr v hv => by
                    obtain ⟨y, hy, rfl⟩ := List.mem_map.1 hr
                    exact (HTR.out.ok y hy).kind v hv
                  have htk : ∀ r ∈ (rest.map (fun (x : Rw) => x.l)).take 0, ∀ v ∈ r, 0 ≤ v.k := fun r hr => hrk r (List.mem_of_mem_take hr)
                  refine tld_kind _ htk ags _ (fun v hv => ?_)
                  obtain ⟨cx, _, rfl⟩ := List.mem_map.1 hv
                  refine atV_kind (fun u hu => ?_) _
                  cases hq : (rest.map (fun (x : Rw) => x.l)).take 0 with
                  | nil => rw [hq] at hu; cases hu
                  | cons y ys => rw [hq] at hu; exact htk y (by rw [hq]; exact List.mem_cons_self) u hu)
                skip
                have HR2 : Hid (RES = _) := Lib.hid (HR.out.trans HTA.out)
                generalize tldB ((rest.map (fun (x : Rw) => x.l)).take 0) (hdOf bs (((rest.map (fun (x : Rw) => x.l)).take 0).headD [])) ags = res at HTD HR2 HKN
                clear hTD tG hgl HG O HR HTA bw
                have hnc : 0 ≤ cr := by omega
                go_wp2_with (first | (at_make; refine Stop.un ?_) | (at_builtin; refine Stop.un ?_) | (with_reducible refine Stop.conv 22 9 ?_) | (with_reducible refine Stop.conv 9 22 ?_))
                refine HTD.out.mono ?_
                rintro e9 w9 hret
                clear HTD
                rcases hret with ⟨g9, n9, c9, rfl, hr0, O9⟩ | ⟨er, rfl, hre, hre0, b9⟩
                ·
                  have HR3 : Hid (RES = tellAll bs ags (runs (gkeys bs) ((rest.map (fun (x : Rw) => x.l)).drop 0)) (outs.map (·.l) ++ [res.2])) := Lib.hid (by rw [HR2.out, if_pos hr0])
                  have M9 := M.below (Own.below O9)
                  have ro := rw_ownG O9 HKN.out
                  have fz : Fz w9 ⟨some ⟨g9, 0, none⟩, n9, c9, res.2⟩ := Fz.own O9
                  have HRB : Hid (∀ a, (⟨some ⟨g9, 0, none⟩, n9, c9, res.2⟩ : Rw).a = some a → wL.heap.size ≤ a.block ∧ a.block < w9.heap.size ∧ (Value.slice ao N co).ownBlock ≠ some a.block) := Lib.hid (fun a ha => by
                    obtain rfl := Option.some.inj ha
                    have h1 := Own.ge O9 g9 rfl
                    have h2 := Own.lt O9 g9 rfl
                    have h3 := Own.le M.O
                    exact ⟨by simp only; omega, h2, fun e => by have := Own.lt M.O _ e; simp only at this; omega⟩)
                  have hr9 := owns_le O9.1
                  have hr9m : c9 ≤ 9223372036854775807 := owns_max O9.1
                  clear M O9 HR2 hr0
                  generalize res.2 = rl at HR3 HKN ro fz HRB
                  go_upto_region 27 with fail
                  refine mix_startN 9 rfl (by kernel_rfl) ?_
                  intro xq hxq
                  replace M9 := M9.below hxq
                  replace ro := ro.mono hxq
                  replace fz := fz.mono hxq
                  replace HRB : Hid (∀ a, (⟨some ⟨g9, 0, none⟩, n9, c9, rl⟩ : Rw).a = some a → wL.heap.size ≤ a.block ∧ a.block < xq.heap.size ∧ (Value.slice ao N co).ownBlock ≠ some a.block) := Lib.hid (fun a ha => ⟨(HRB.out a ha).1, Nat.lt_of_lt_of_le (HRB.out a ha).2.1 hxq.size, (HRB.out a ha).2.2⟩)
                  clear hxq
                  refine mix_quiet Keeps.any 0 rfl (by kernel_rfl) rfl ?_
                  intro ι U hne hU
                  go_big_quiet_op
                  clear hU hne U ι
                  show wpAnyM _ _ _ _ _ _ _ _ _
                  refine mix_quiet Keeps.any 1 rfl (by kernel_rfl) rfl ?_
                  intro ι U hne hU
                  go_big_quiet_op
                  clear hU hne U ι
                  show wpAnyM _ _ _ _ _ _ _ _ _
                  refine mix_quiet Keeps.any 4 rfl (by kernel_rfl) rfl ?_
                  intro ι U hne hU
                  go_big_quiet_op
                  clear hU hne U ι
                  show wpAnyM _ _ _ _ _ _ _ _ _
                  refine mix_quiet Keeps.any 5 rfl (by kernel_rfl) rfl ?_
                  intro ι U hne hU
                  go_big_quiet_op
                  clear hU hne U ι
                  show wpAnyM _ _ _ _ _ _ _ _ _
                  refine mix_quiet Keeps.any 6 rfl (by kernel_rfl) rfl ?_
                  intro ι U hne hU
                  refine quiet_as _ (exec_cutR rb 0 cr 0 rfl rfl hnm hmc) (hne.elim fun ii => ⟨_, ii, rfl⟩) ?_
                  go_big_quiet_op
                  clear hU hne U ι
                  show wpAnyM _ _ _ _ _ _ _ _ _
                  have HAD := Lib.hid (fun (W : World) (hc : Cs W rb (rwcells rest)) => hc.rcut 0 cr (by have := HRL.out.1; omega))
                  generalize hA7 : (if cr = 0 then rb else rb.map fun x => x.add 0) = a7 at HAD ⊢
                  clear hA7
                  refine mix_any 2 rfl (by kernel_rfl) rfl ?_
                  go_wp2_with (first | (at_make; refine Stop.un ?_) | (at_builtin; refine Stop.un ?_) | (with_reducible refine Stop.conv 22 9 ?_) | (with_reducible refine Stop.conv 9 22 ?_))
                  refine MixPost.mk (True.intro : AnyW _ _) ?_
                  refine mix_any 3 rfl (by kernel_rfl) rfl ?_
                  go_wp2_with (first | (at_make; refine Stop.un ?_) | (at_builtin; refine Stop.un ?_) | (with_reducible refine Stop.conv 22 9 ?_) | (with_reducible refine Stop.conv 9 22 ?_))
                  refine Stop.mk (app_rw1 (r := ⟨some ⟨g9, 0, none⟩, n9, c9, rl⟩) wL _ _ rfl rfl M9.O rfl rfl (by omega) ?_)
                  intro a8 c8 w8 O8 g8 k8
                  go_wp2_with (first | (at_make; refine Stop.un ?_) | (at_builtin; refine Stop.un ?_) | (with_reducible refine Stop.conv 22 9 ?_) | (with_reducible refine Stop.conv 9 22 ?_))
                  refine MixPost.mk (True.intro : AnyW _ _) ?_
                  have M8 := M9.push ro fz HRB.out O8 g8 k8
                  clear M9 ro fz HRB O8 g8 k8 HKN hr9 hr9m
                  refine mix_quiet Keeps.any 7 rfl (by kernel_rfl) rfl ?_
                  intro ι U hne hU
                  go_big_quiet_op
                  clear hU hne U ι
                  show wpAnyM _ _ _ _ _ _ _ _ _
                  refine mix_quiet Keeps.any 8 rfl (by kernel_rfl) rfl ?_
                  intro ι U hne hU
                  go_big_quiet_op
                  clear hU hne U ι
                  show wpAnyM _ _ _ _ _ _ _ _ _
                  refine mix_end (by kernel_rfl) ?_
                  have tR2 : Tab wL a7 (rest.drop 0) := ⟨HAD.out wL HTR.out.cs, fun r hr => HTR.out.ok r (List.mem_of_mem_drop hr)⟩
                  have HRL2 : Hid ((rest.drop 0).length = 0 - 0 ∧ (∀ r ∈ rest.drop 0, r ∈ rs) ∧ cr - 0 ≤ maxLen) := Lib.hid ⟨by rw [List.length_drop, HRL.out.1], fun r hr => HRL.out.2.1 r (List.mem_of_mem_drop hr), by have := HRL.out.2.2; omega⟩
                  have HR4 : Hid (RES = tellAll bs ags (pend bs ((rest.drop 0).map (·.l)) (decide (N + 1 = 0))) ((outs ++ [(⟨some ⟨g9, 0, none⟩, n9, c9, rl⟩ : Rw)]).map (·.l))) := Lib.hid (by rw [HR3.out, decide_eq_false (by omega), pend_done, List.map_append, List.map_drop]; rfl)
                  clear HR3 HRL HTR HAD
                  go_wp2_with (first | (at_make; refine Stop.un ?_) | (at_builtin; refine Stop.un ?_) | (with_reducible refine Stop.conv 22 9 ?_) | (with_reducible refine Stop.conv 9 22 ?_))
                  go_roundw
                  case rel => exact ⟨a7, 0 - 0, cr - 0, rest.drop 0, a8, N + 1, c8, _, rfl, rfl, by omega, by omega, tR2, M8, HRL2, HR4⟩
                  case measure => simp [lenV]; omega
                ·
                  have HR3 : Hid (RES = (er, [])) := Lib.hid (by rw [HR2.out, if_neg (by rw [hre]; exact hre0), hre])
                  have hern : (er != 0) = true := by simpa using hre0
                  have bE := (HBL.out.next (Own.below M.O)).next b9
                  clear HR2 hre hre0 b9 M HKN
                  go_wp2_with (first | (at_make; refine Stop.un ?_) | (at_builtin; refine Stop.un ?_) | (with_reducible refine Stop.conv 22 9 ?_) | (with_reducible refine Stop.conv 9 22 ?_))
                  exact bodyPost_ret (v := .tuple #[.slice none 0 0, .int .i64 er]) (by simp [results, Try.results11, go_sem]) rfl ⟨none, 0, 0, [], by rw [HR3.out], OutM.nil bE, by rw [HR3.out]; rfl⟩
              · have HRX : Hid (RES = (0, outs.map (·.l))) := Lib.hid (by
                  rw [HR.out]
                  unfold pend
                  rw [if_neg (fun h => hb ⟨by rw [← HBS.out.1, h.1.1]; rfl, by simpa using h.2⟩)]
                  rfl)
                have MU := M.up HBL.out
                clear HR HRL
                by_cases hj0 : j = 0
                · subst hj0
                  have hN0 : N ≠ 0 := fun h => hb ⟨rfl, h⟩
                  have d1 : (N == 0) = false := by simpa using hN0
                  have d2 : ((N : Int) == 0) = false := by simp; omega
                  clear hb
                  go_wp2_with (first | (at_make; refine Stop.un ?_) | (at_builtin; refine Stop.un ?_) | (with_reducible refine Stop.conv 22 9 ?_) | (with_reducible refine Stop.conv 9 22 ?_))
                  exact bodyPost_ret (v := .tuple #[.slice ao N co, .int .i64 0]) (by simp [results, Try.results11, go_sem]) rfl ⟨ao, N, co, outs, by rw [HRX.out], MU, by rw [HRX.out]⟩
                · have d1 : (j == 0) = false := by simpa using hj0
                  have d2 : ((j : Int) == 0) = false := by simp; omega
                  clear hb
                  go_wp2_with (first | (at_make; refine Stop.un ?_) | (at_builtin; refine Stop.un ?_) | (with_reducible refine Stop.conv 22 9 ?_) | (with_reducible refine Stop.conv 9 22 ?_))
                  exact bodyPost_ret (v := .tuple #[.slice ao N co, .int .i64 0]) (by simp [results, Try.results11, go_sem]) rfl ⟨ao, N, co, outs, by rw [HRX.out], MU, by rw [HRX.out]⟩
  · have hEb : (E != 0) = true := by simpa using hE0
    have HR : Hid (RES = (E, [])) := Lib.hid (by
      rw [← HE.out.2]
      unfold grpB
      rw [if_neg (by rw [HE.out.1]; exact hE0), HE.out.1])
    clear hE0
    go_wp2_with (first | (at_make; refine Stop.un ?_) | (at_builtin; refine Stop.un ?_) | (with_reducible refine Stop.conv 22 9 ?_) | (with_reducible refine Stop.conv 9 22 ?_))
    exact bodyPost_ret (v := .tuple #[.slice none 0 0, .int .i64 E]) (by simp [results, Try.results11, go_sem]) rfl ⟨none, 0, 0, [], by rw [HR.out], OutM.nil b1, by rw [HR.out]; rfl⟩
/-! The head of all statements of layer 22. -/
def txtG (s : ByteArray) : V := ⟨3, 0, s⟩
theorem num_any22 (n : Int) (w : World) :
    Calls Try.prog 13 #[.int .i64 n] w (fun e w' => e = .returned (.agg #[.int .u8 2, .int .i64 n, .string ⟨#[]⟩]) ∧ Below w.heap.size w w') := by
  go_enter Try.func13, Try.ntmps13
  go_wp2_with (first | (at_make; refine Stop.un ?_) | (at_builtin; refine Stop.un ?_) | (with_reducible refine Stop.conv 22 9 ?_) | (with_reducible refine Stop.conv 9 22 ?_))
  exact bodyPost_ret (v := .agg #[.int .u8 2, .int .i64 n, .string ⟨#[]⟩]) (by simp [results, Try.results13, go_sem]) rfl ⟨rfl, ((Below.refl _ _).alloc (Nat.le_refl _) _)⟩
theorem text_any22 (s : ByteArray) (w : World) :
    Calls Try.prog 22 #[.string s] w (fun e w' => e = .returned (.agg #[.int .u8 3, .int .i64 0, .string s]) ∧ Below w.heap.size w w') := by
  go_enter Try.func22, Try.ntmps22
  go_wp2_with (first | (at_make; refine Stop.un ?_) | (at_builtin; refine Stop.un ?_) | (with_reducible refine Stop.conv 22 9 ?_) | (with_reducible refine Stop.conv 9 22 ?_))
  exact bodyPost_ret (v := .agg #[.int .u8 3, .int .i64 0, .string s]) (by simp [results, Try.results22, go_sem]) rfl ⟨rfl, ((Below.refl _ _).alloc (Nat.le_refl _) _)⟩
/-- A row that lies in a block of its own. -/
theorem rowAt {w : World} {g : Nat} {l : List V} {t : TypeId} (z : At w g (vcells l).toArray t) (hm : l.length ≤ maxLen) (hk : ∀ v ∈ l, 0 ≤ v.k) : RowOk w ⟨some ⟨g, 0, none⟩, l.length, l.length, l⟩ := ⟨At.cs15 z, rfl, Nat.le_refl _, hm, hk⟩
theorem tabAt {w : World} {g : Nat} {rs : List Rw} {t : TypeId} (z : At w g (rwcells rs).toArray t) (h : ∀ r ∈ rs, RowOk w r) : Tab w (some ⟨g, 0, none⟩) rs := ⟨At.cs15 z, h⟩
def aG : ByteArray := ⟨#[97]⟩
def bG : ByteArray := ⟨#[98]⟩
theorem sg1 : grpB [3, 2] [[txtG aG, numG 1], [txtG bG, numG 2], [txtG aG, numG 3]] [0] [⟨1, 0⟩, ⟨3, 1⟩] = (0, [[txtG aG, numG 2, numG 4], [txtG bG, numG 1, numG 2]]) := by decide +kernel
theorem sg2 : (grpB [2] [[numG 9223372036854775807], [numG 1]] [] [⟨3, 0⟩]).1 = 220 := by decide +kernel
theorem sg3 : grpB [2] [[numG 9223372036854775807], [numG 1], [numG (-1)]] [] [⟨3, 0⟩] = (0, [[numG 9223372036854775807]]) := by decide +kernel
set_option maxRecDepth 100000 in
set_option maxHeartbeats 16000000 in
theorem shown_any22 (w : World) : Calls Try.prog 9 #[] w (fun e w' => e = .returned (.bool true) ∧ Below w.heap.size w w') := by
  go_enter Try.func9, Try.ntmps9
  have b0 : Below w.heap.size w w := Below.refl _ _
  go_wp2_with (first | (at_make; refine Stop.un ?_) | (at_builtin; refine Stop.un ?_) | (with_reducible refine Stop.conv 22 9 ?_) | (with_reducible refine Stop.conv 9 22 ?_))
  have hsz0 := b0.size
  clear hsz0
  have zk : At (w.alloc (.cells #[.int .u8 3, .int .u8 2] 5)) (w.heap.size) #[.int .u8 3, .int .u8 2] 5 := by simpa only [World.size_alloc, Nat.add_assoc, Nat.reduceAdd] using At.new w #[.int .u8 3, .int .u8 2] 5
  have BB : Below w.heap.size w (w.alloc (.cells #[.int .u8 3, .int .u8 2] 5)) := Below.alloc (Below.refl w.heap.size w) (by (try simp only [World.size_alloc]) <;> omega) (.cells #[.int .u8 3, .int .u8 2] 5)
  replace b0 := Below.next b0 BB
  clear BB
  generalize (w.alloc (.cells #[.int .u8 3, .int .u8 2] 5)) = x2 at b0 zk ⊢
  generalize w.heap.size = g_zk at zk ⊢
  refine (text_any22 _ _).mono ?_
  rintro e w1 ⟨rfl, bt⟩
  replace b0 := Below.next b0 bt
  replace zk := At.mono zk bt
  clear bt
  go_wp2_with (first | (at_make; refine Stop.un ?_) | (at_builtin; refine Stop.un ?_) | (with_reducible refine Stop.conv 22 9 ?_) | (with_reducible refine Stop.conv 9 22 ?_))
  refine (num_any22 (1) _).mono ?_
  rintro e w3 ⟨rfl, bt⟩
  replace b0 := Below.next b0 bt
  replace zk := At.mono zk bt
  clear bt
  go_wp2_with (first | (at_make; refine Stop.un ?_) | (at_builtin; refine Stop.un ?_) | (with_reducible refine Stop.conv 22 9 ?_) | (with_reducible refine Stop.conv 9 22 ?_))
  have hsz0 := b0.size
  clear hsz0
  have r1 : At (w3.alloc (.cells #[.int .u8 3, .int .i64 0, .string ⟨#[97]⟩, .int .u8 2, .int .i64 (1), .string ⟨#[]⟩] 38)) (w3.heap.size) #[.int .u8 3, .int .i64 0, .string ⟨#[97]⟩, .int .u8 2, .int .i64 (1), .string ⟨#[]⟩] 38 := by simpa only [World.size_alloc, Nat.add_assoc, Nat.reduceAdd] using At.new w3 #[.int .u8 3, .int .i64 0, .string ⟨#[97]⟩, .int .u8 2, .int .i64 (1), .string ⟨#[]⟩] 38
  have BB : Below w3.heap.size w3 (w3.alloc (.cells #[.int .u8 3, .int .i64 0, .string ⟨#[97]⟩, .int .u8 2, .int .i64 (1), .string ⟨#[]⟩] 38)) := Below.alloc (Below.refl w3.heap.size w3) (by (try simp only [World.size_alloc]) <;> omega) (.cells #[.int .u8 3, .int .i64 0, .string ⟨#[97]⟩, .int .u8 2, .int .i64 (1), .string ⟨#[]⟩] 38)
  replace b0 := Below.next b0 BB
  replace zk := At.mono zk BB
  clear BB
  generalize (w3.alloc (.cells #[.int .u8 3, .int .i64 0, .string ⟨#[97]⟩, .int .u8 2, .int .i64 (1), .string ⟨#[]⟩] 38)) = x5 at b0 zk r1 ⊢
  generalize w3.heap.size = g_r1 at r1 ⊢
  refine (text_any22 _ _).mono ?_
  rintro e w4 ⟨rfl, bt⟩
  replace b0 := Below.next b0 bt
  replace zk := At.mono zk bt
  replace r1 := At.mono r1 bt
  clear bt
  go_wp2_with (first | (at_make; refine Stop.un ?_) | (at_builtin; refine Stop.un ?_) | (with_reducible refine Stop.conv 22 9 ?_) | (with_reducible refine Stop.conv 9 22 ?_))
  refine (num_any22 (2) _).mono ?_
  rintro e w6 ⟨rfl, bt⟩
  replace b0 := Below.next b0 bt
  replace zk := At.mono zk bt
  replace r1 := At.mono r1 bt
  clear bt
  go_wp2_with (first | (at_make; refine Stop.un ?_) | (at_builtin; refine Stop.un ?_) | (with_reducible refine Stop.conv 22 9 ?_) | (with_reducible refine Stop.conv 9 22 ?_))
  have hsz0 := b0.size
  clear hsz0
  have r2 : At (w6.alloc (.cells #[.int .u8 3, .int .i64 0, .string ⟨#[98]⟩, .int .u8 2, .int .i64 (2), .string ⟨#[]⟩] 38)) (w6.heap.size) #[.int .u8 3, .int .i64 0, .string ⟨#[98]⟩, .int .u8 2, .int .i64 (2), .string ⟨#[]⟩] 38 := by simpa only [World.size_alloc, Nat.add_assoc, Nat.reduceAdd] using At.new w6 #[.int .u8 3, .int .i64 0, .string ⟨#[98]⟩, .int .u8 2, .int .i64 (2), .string ⟨#[]⟩] 38
  have BB : Below w6.heap.size w6 (w6.alloc (.cells #[.int .u8 3, .int .i64 0, .string ⟨#[98]⟩, .int .u8 2, .int .i64 (2), .string ⟨#[]⟩] 38)) := Below.alloc (Below.refl w6.heap.size w6) (by (try simp only [World.size_alloc]) <;> omega) (.cells #[.int .u8 3, .int .i64 0, .string ⟨#[98]⟩, .int .u8 2, .int .i64 (2), .string ⟨#[]⟩] 38)
  replace b0 := Below.next b0 BB
  replace zk := At.mono zk BB
  replace r1 := At.mono r1 BB
  clear BB
  generalize (w6.alloc (.cells #[.int .u8 3, .int .i64 0, .string ⟨#[98]⟩, .int .u8 2, .int .i64 (2), .string ⟨#[]⟩] 38)) = x8 at b0 zk r1 r2 ⊢
  generalize w6.heap.size = g_r2 at r2 ⊢
  refine (text_any22 _ _).mono ?_
  rintro e w7 ⟨rfl, bt⟩
  replace b0 := Below.next b0 bt
  replace zk := At.mono zk bt
  replace r1 := At.mono r1 bt
  replace r2 := At.mono r2 bt
  clear bt
  go_wp2_with (first | (at_make; refine Stop.un ?_) | (at_builtin; refine Stop.un ?_) | (with_reducible refine Stop.conv 22 9 ?_) | (with_reducible refine Stop.conv 9 22 ?_))
  refine (num_any22 (3) _).mono ?_
  rintro e w9 ⟨rfl, bt⟩
  replace b0 := Below.next b0 bt
  replace zk := At.mono zk bt
  replace r1 := At.mono r1 bt
  replace r2 := At.mono r2 bt
  clear bt
  go_wp2_with (first | (at_make; refine Stop.un ?_) | (at_builtin; refine Stop.un ?_) | (with_reducible refine Stop.conv 22 9 ?_) | (with_reducible refine Stop.conv 9 22 ?_))
  have hsz0 := b0.size
  clear hsz0
  have r3 : At ((((w9.alloc (.cells #[.int .u8 3, .int .i64 0, .string ⟨#[97]⟩, .int .u8 2, .int .i64 (3), .string ⟨#[]⟩] 38)).alloc (.cells #[.slice (some ⟨g_r1, 0, none⟩) 2 2, .slice (some ⟨g_r2, 0, none⟩) 2 2, .slice (some ⟨w9.heap.size, 0, none⟩) 2 2] 36)).alloc (.cells #[.int .i64 0] 3)).alloc (.cells #[.int .u8 1, .int .i64 0, .int .u8 3, .int .i64 1] 34)) (w9.heap.size) #[.int .u8 3, .int .i64 0, .string ⟨#[97]⟩, .int .u8 2, .int .i64 (3), .string ⟨#[]⟩] 38 := by simpa only [World.size_alloc, Nat.add_assoc, Nat.reduceAdd] using (((At.new w9 #[.int .u8 3, .int .i64 0, .string ⟨#[97]⟩, .int .u8 2, .int .i64 (3), .string ⟨#[]⟩] 38).alloc (.cells #[.slice (some ⟨g_r1, 0, none⟩) 2 2, .slice (some ⟨g_r2, 0, none⟩) 2 2, .slice (some ⟨w9.heap.size, 0, none⟩) 2 2] 36)).alloc (.cells #[.int .i64 0] 3)).alloc (.cells #[.int .u8 1, .int .i64 0, .int .u8 3, .int .i64 1] 34)
  have zt : At ((((w9.alloc (.cells #[.int .u8 3, .int .i64 0, .string ⟨#[97]⟩, .int .u8 2, .int .i64 (3), .string ⟨#[]⟩] 38)).alloc (.cells #[.slice (some ⟨g_r1, 0, none⟩) 2 2, .slice (some ⟨g_r2, 0, none⟩) 2 2, .slice (some ⟨w9.heap.size, 0, none⟩) 2 2] 36)).alloc (.cells #[.int .i64 0] 3)).alloc (.cells #[.int .u8 1, .int .i64 0, .int .u8 3, .int .i64 1] 34)) (w9.heap.size + 1) #[.slice (some ⟨g_r1, 0, none⟩) 2 2, .slice (some ⟨g_r2, 0, none⟩) 2 2, .slice (some ⟨w9.heap.size, 0, none⟩) 2 2] 36 := by simpa only [World.size_alloc, Nat.add_assoc, Nat.reduceAdd] using ((At.new (w9.alloc (.cells #[.int .u8 3, .int .i64 0, .string ⟨#[97]⟩, .int .u8 2, .int .i64 (3), .string ⟨#[]⟩] 38)) #[.slice (some ⟨g_r1, 0, none⟩) 2 2, .slice (some ⟨g_r2, 0, none⟩) 2 2, .slice (some ⟨w9.heap.size, 0, none⟩) 2 2] 36).alloc (.cells #[.int .i64 0] 3)).alloc (.cells #[.int .u8 1, .int .i64 0, .int .u8 3, .int .i64 1] 34)
  have zb : At ((((w9.alloc (.cells #[.int .u8 3, .int .i64 0, .string ⟨#[97]⟩, .int .u8 2, .int .i64 (3), .string ⟨#[]⟩] 38)).alloc (.cells #[.slice (some ⟨g_r1, 0, none⟩) 2 2, .slice (some ⟨g_r2, 0, none⟩) 2 2, .slice (some ⟨w9.heap.size, 0, none⟩) 2 2] 36)).alloc (.cells #[.int .i64 0] 3)).alloc (.cells #[.int .u8 1, .int .i64 0, .int .u8 3, .int .i64 1] 34)) (w9.heap.size + 2) #[.int .i64 0] 3 := by simpa only [World.size_alloc, Nat.add_assoc, Nat.reduceAdd] using (At.new ((w9.alloc (.cells #[.int .u8 3, .int .i64 0, .string ⟨#[97]⟩, .int .u8 2, .int .i64 (3), .string ⟨#[]⟩] 38)).alloc (.cells #[.slice (some ⟨g_r1, 0, none⟩) 2 2, .slice (some ⟨g_r2, 0, none⟩) 2 2, .slice (some ⟨w9.heap.size, 0, none⟩) 2 2] 36)) #[.int .i64 0] 3).alloc (.cells #[.int .u8 1, .int .i64 0, .int .u8 3, .int .i64 1] 34)
  have zg : At ((((w9.alloc (.cells #[.int .u8 3, .int .i64 0, .string ⟨#[97]⟩, .int .u8 2, .int .i64 (3), .string ⟨#[]⟩] 38)).alloc (.cells #[.slice (some ⟨g_r1, 0, none⟩) 2 2, .slice (some ⟨g_r2, 0, none⟩) 2 2, .slice (some ⟨w9.heap.size, 0, none⟩) 2 2] 36)).alloc (.cells #[.int .i64 0] 3)).alloc (.cells #[.int .u8 1, .int .i64 0, .int .u8 3, .int .i64 1] 34)) (w9.heap.size + 3) #[.int .u8 1, .int .i64 0, .int .u8 3, .int .i64 1] 34 := by simpa only [World.size_alloc, Nat.add_assoc, Nat.reduceAdd] using At.new (((w9.alloc (.cells #[.int .u8 3, .int .i64 0, .string ⟨#[97]⟩, .int .u8 2, .int .i64 (3), .string ⟨#[]⟩] 38)).alloc (.cells #[.slice (some ⟨g_r1, 0, none⟩) 2 2, .slice (some ⟨g_r2, 0, none⟩) 2 2, .slice (some ⟨w9.heap.size, 0, none⟩) 2 2] 36)).alloc (.cells #[.int .i64 0] 3)) #[.int .u8 1, .int .i64 0, .int .u8 3, .int .i64 1] 34
  have BB : Below w9.heap.size w9 ((((w9.alloc (.cells #[.int .u8 3, .int .i64 0, .string ⟨#[97]⟩, .int .u8 2, .int .i64 (3), .string ⟨#[]⟩] 38)).alloc (.cells #[.slice (some ⟨g_r1, 0, none⟩) 2 2, .slice (some ⟨g_r2, 0, none⟩) 2 2, .slice (some ⟨w9.heap.size, 0, none⟩) 2 2] 36)).alloc (.cells #[.int .i64 0] 3)).alloc (.cells #[.int .u8 1, .int .i64 0, .int .u8 3, .int .i64 1] 34)) := Below.alloc (Below.alloc (Below.alloc (Below.alloc (Below.refl w9.heap.size w9) (by (try simp only [World.size_alloc]) <;> omega) (.cells #[.int .u8 3, .int .i64 0, .string ⟨#[97]⟩, .int .u8 2, .int .i64 (3), .string ⟨#[]⟩] 38)) (by (try simp only [World.size_alloc]) <;> omega) (.cells #[.slice (some ⟨g_r1, 0, none⟩) 2 2, .slice (some ⟨g_r2, 0, none⟩) 2 2, .slice (some ⟨w9.heap.size, 0, none⟩) 2 2] 36)) (by (try simp only [World.size_alloc]) <;> omega) (.cells #[.int .i64 0] 3)) (by (try simp only [World.size_alloc]) <;> omega) (.cells #[.int .u8 1, .int .i64 0, .int .u8 3, .int .i64 1] 34)
  replace b0 := Below.next b0 BB
  replace zk := At.mono zk BB
  replace r1 := At.mono r1 BB
  replace r2 := At.mono r2 BB
  clear BB
  generalize ((((w9.alloc (.cells #[.int .u8 3, .int .i64 0, .string ⟨#[97]⟩, .int .u8 2, .int .i64 (3), .string ⟨#[]⟩] 38)).alloc (.cells #[.slice (some ⟨g_r1, 0, none⟩) 2 2, .slice (some ⟨g_r2, 0, none⟩) 2 2, .slice (some ⟨w9.heap.size, 0, none⟩) 2 2] 36)).alloc (.cells #[.int .i64 0] 3)).alloc (.cells #[.int .u8 1, .int .i64 0, .int .u8 3, .int .i64 1] 34)) = x10 at b0 zk r1 r2 r3 zt zb zg ⊢
  generalize w9.heap.size + 3 = g_zg at zg ⊢
  generalize w9.heap.size + 2 = g_zb at zb zg ⊢
  generalize w9.heap.size + 1 = g_zt at zt zb zg ⊢
  generalize w9.heap.size = g_r3 at r3 zt zb zg ⊢
  have tR := tabAt (rs := [⟨some ⟨g_r1, 0, none⟩, 2, 2, [txtG aG, numG (1)]⟩, ⟨some ⟨g_r2, 0, none⟩, 2, 2, [txtG bG, numG (2)]⟩, ⟨some ⟨g_r3, 0, none⟩, 2, 2, [txtG aG, numG (3)]⟩]) zt (fun r hr => by
    simp only [List.mem_cons, List.not_mem_nil, or_false] at hr
    rcases hr with rfl | rfl | rfl
    · exact (rowAt (l := [txtG aG, numG (1)]) r1 (Nat.le_of_ble_eq_true rfl) (by decide))
    · exact (rowAt (l := [txtG bG, numG (2)]) r2 (Nat.le_of_ble_eq_true rfl) (by decide))
    · exact (rowAt (l := [txtG aG, numG (3)]) r3 (Nat.le_of_ble_eq_true rfl) (by decide)))
  have hgr := grows_any (some ⟨g_zk, 0, none⟩) 2 2 [3, 2] (some ⟨g_zt, 0, none⟩) 3 3 _ (some ⟨g_zb, 0, none⟩) 1 1 [0] (some ⟨g_zg, 0, none⟩) 2 2 [⟨1, 0⟩, ⟨3, 1⟩] x10 (At.cs15 (xs := bcells [3, 2]) zk) rfl (by decide) (by decide) tR rfl (by decide) (by decide) (by decide) (fun r hr => by
    simp only [List.mem_cons, List.not_mem_nil, or_false] at hr
    rcases hr with rfl | rfl | rfl
    · exact Nat.le_of_ble_eq_true rfl
    · exact Nat.le_of_ble_eq_true rfl
    · exact Nat.le_of_ble_eq_true rfl) (At.cs15 (xs := icells [0]) zb) rfl (by decide) (by decide) (by decide) (At.cs15 (xs := agcells [⟨1, 0⟩, ⟨3, 1⟩]) zg) rfl (by decide) (by decide) (by decide)
  simp only [List.map_cons, List.map_nil] at hgr
  rw [sg1] at hgr
  have HGR := Lib.hid hgr
  clear hgr tR
  refine HGR.out.mono ?_
  rintro e w11 ⟨aA, nA, cA, rsA, rfl, MA, hA⟩
  clear HGR
  have bt := Own.below MA.O
  replace b0 := Below.next b0 bt
  replace zk := At.mono zk bt
  replace r1 := At.mono r1 bt
  replace r2 := At.mono r2 bt
  replace r3 := At.mono r3 bt
  replace zt := At.mono zt bt
  replace zb := At.mono zb bt
  replace zg := At.mono zg bt
  clear bt
  have HRA := Lib.hid hA
  clear hA
  have hleA := owns_le MA.O.1
  have hmxA : cA ≤ 9223372036854775807 := owns_max MA.O.1
  clear zk
  clear r1
  clear r2
  clear r3
  clear zt
  clear zb
  clear zg
  go_wp2_with (first | (at_make; refine Stop.un ?_) | (at_builtin; refine Stop.un ?_) | (with_reducible refine Stop.conv 22 9 ?_) | (with_reducible refine Stop.conv 9 22 ?_))
  refine (text_any22 _ _).mono ?_
  rintro e w12 ⟨rfl, bt⟩
  replace b0 := Below.next b0 bt
  replace MA := OutM.below MA bt
  clear bt
  go_wp2_with (first | (at_make; refine Stop.un ?_) | (at_builtin; refine Stop.un ?_) | (with_reducible refine Stop.conv 22 9 ?_) | (with_reducible refine Stop.conv 9 22 ?_))
  refine (num_any22 (2) _).mono ?_
  rintro e w13 ⟨rfl, bt⟩
  replace b0 := Below.next b0 bt
  replace MA := OutM.below MA bt
  clear bt
  go_wp2_with (first | (at_make; refine Stop.un ?_) | (at_builtin; refine Stop.un ?_) | (with_reducible refine Stop.conv 22 9 ?_) | (with_reducible refine Stop.conv 9 22 ?_))
  refine (num_any22 (4) _).mono ?_
  rintro e w14 ⟨rfl, bt⟩
  replace b0 := Below.next b0 bt
  replace MA := OutM.below MA bt
  clear bt
  go_wp2_with (first | (at_make; refine Stop.un ?_) | (at_builtin; refine Stop.un ?_) | (with_reducible refine Stop.conv 22 9 ?_) | (with_reducible refine Stop.conv 9 22 ?_))
  have hsz0 := b0.size
  clear hsz0
  have s1 : At (w14.alloc (.cells #[.int .u8 3, .int .i64 0, .string ⟨#[97]⟩, .int .u8 2, .int .i64 (2), .string ⟨#[]⟩, .int .u8 2, .int .i64 (4), .string ⟨#[]⟩] 38)) (w14.heap.size) #[.int .u8 3, .int .i64 0, .string ⟨#[97]⟩, .int .u8 2, .int .i64 (2), .string ⟨#[]⟩, .int .u8 2, .int .i64 (4), .string ⟨#[]⟩] 38 := by simpa only [World.size_alloc, Nat.add_assoc, Nat.reduceAdd] using At.new w14 #[.int .u8 3, .int .i64 0, .string ⟨#[97]⟩, .int .u8 2, .int .i64 (2), .string ⟨#[]⟩, .int .u8 2, .int .i64 (4), .string ⟨#[]⟩] 38
  have BB : Below w14.heap.size w14 (w14.alloc (.cells #[.int .u8 3, .int .i64 0, .string ⟨#[97]⟩, .int .u8 2, .int .i64 (2), .string ⟨#[]⟩, .int .u8 2, .int .i64 (4), .string ⟨#[]⟩] 38)) := Below.alloc (Below.refl w14.heap.size w14) (by (try simp only [World.size_alloc]) <;> omega) (.cells #[.int .u8 3, .int .i64 0, .string ⟨#[97]⟩, .int .u8 2, .int .i64 (2), .string ⟨#[]⟩, .int .u8 2, .int .i64 (4), .string ⟨#[]⟩] 38)
  replace b0 := Below.next b0 BB
  replace MA := OutM.below MA BB
  clear BB
  generalize (w14.alloc (.cells #[.int .u8 3, .int .i64 0, .string ⟨#[97]⟩, .int .u8 2, .int .i64 (2), .string ⟨#[]⟩, .int .u8 2, .int .i64 (4), .string ⟨#[]⟩] 38)) = x16 at b0 MA s1 ⊢
  generalize w14.heap.size = g_s1 at s1 ⊢
  refine (text_any22 _ _).mono ?_
  rintro e w15 ⟨rfl, bt⟩
  replace b0 := Below.next b0 bt
  replace MA := OutM.below MA bt
  replace s1 := At.mono s1 bt
  clear bt
  go_wp2_with (first | (at_make; refine Stop.un ?_) | (at_builtin; refine Stop.un ?_) | (with_reducible refine Stop.conv 22 9 ?_) | (with_reducible refine Stop.conv 9 22 ?_))
  refine (num_any22 (1) _).mono ?_
  rintro e w17 ⟨rfl, bt⟩
  replace b0 := Below.next b0 bt
  replace MA := OutM.below MA bt
  replace s1 := At.mono s1 bt
  clear bt
  go_wp2_with (first | (at_make; refine Stop.un ?_) | (at_builtin; refine Stop.un ?_) | (with_reducible refine Stop.conv 22 9 ?_) | (with_reducible refine Stop.conv 9 22 ?_))
  refine (num_any22 (2) _).mono ?_
  rintro e w18 ⟨rfl, bt⟩
  replace b0 := Below.next b0 bt
  replace MA := OutM.below MA bt
  replace s1 := At.mono s1 bt
  clear bt
  go_wp2_with (first | (at_make; refine Stop.un ?_) | (at_builtin; refine Stop.un ?_) | (with_reducible refine Stop.conv 22 9 ?_) | (with_reducible refine Stop.conv 9 22 ?_))
  have hsz0 := b0.size
  clear hsz0
  have s2 : At ((w18.alloc (.cells #[.int .u8 3, .int .i64 0, .string ⟨#[98]⟩, .int .u8 2, .int .i64 (1), .string ⟨#[]⟩, .int .u8 2, .int .i64 (2), .string ⟨#[]⟩] 38)).alloc (.cells #[.slice (some ⟨g_s1, 0, none⟩) 3 3, .slice (some ⟨w18.heap.size, 0, none⟩) 3 3] 36)) (w18.heap.size) #[.int .u8 3, .int .i64 0, .string ⟨#[98]⟩, .int .u8 2, .int .i64 (1), .string ⟨#[]⟩, .int .u8 2, .int .i64 (2), .string ⟨#[]⟩] 38 := by simpa only [World.size_alloc, Nat.add_assoc, Nat.reduceAdd] using (At.new w18 #[.int .u8 3, .int .i64 0, .string ⟨#[98]⟩, .int .u8 2, .int .i64 (1), .string ⟨#[]⟩, .int .u8 2, .int .i64 (2), .string ⟨#[]⟩] 38).alloc (.cells #[.slice (some ⟨g_s1, 0, none⟩) 3 3, .slice (some ⟨w18.heap.size, 0, none⟩) 3 3] 36)
  have zq : At ((w18.alloc (.cells #[.int .u8 3, .int .i64 0, .string ⟨#[98]⟩, .int .u8 2, .int .i64 (1), .string ⟨#[]⟩, .int .u8 2, .int .i64 (2), .string ⟨#[]⟩] 38)).alloc (.cells #[.slice (some ⟨g_s1, 0, none⟩) 3 3, .slice (some ⟨w18.heap.size, 0, none⟩) 3 3] 36)) (w18.heap.size + 1) #[.slice (some ⟨g_s1, 0, none⟩) 3 3, .slice (some ⟨w18.heap.size, 0, none⟩) 3 3] 36 := by simpa only [World.size_alloc, Nat.add_assoc, Nat.reduceAdd] using At.new (w18.alloc (.cells #[.int .u8 3, .int .i64 0, .string ⟨#[98]⟩, .int .u8 2, .int .i64 (1), .string ⟨#[]⟩, .int .u8 2, .int .i64 (2), .string ⟨#[]⟩] 38)) #[.slice (some ⟨g_s1, 0, none⟩) 3 3, .slice (some ⟨w18.heap.size, 0, none⟩) 3 3] 36
  have BB : Below w18.heap.size w18 ((w18.alloc (.cells #[.int .u8 3, .int .i64 0, .string ⟨#[98]⟩, .int .u8 2, .int .i64 (1), .string ⟨#[]⟩, .int .u8 2, .int .i64 (2), .string ⟨#[]⟩] 38)).alloc (.cells #[.slice (some ⟨g_s1, 0, none⟩) 3 3, .slice (some ⟨w18.heap.size, 0, none⟩) 3 3] 36)) := Below.alloc (Below.alloc (Below.refl w18.heap.size w18) (by (try simp only [World.size_alloc]) <;> omega) (.cells #[.int .u8 3, .int .i64 0, .string ⟨#[98]⟩, .int .u8 2, .int .i64 (1), .string ⟨#[]⟩, .int .u8 2, .int .i64 (2), .string ⟨#[]⟩] 38)) (by (try simp only [World.size_alloc]) <;> omega) (.cells #[.slice (some ⟨g_s1, 0, none⟩) 3 3, .slice (some ⟨w18.heap.size, 0, none⟩) 3 3] 36)
  replace b0 := Below.next b0 BB
  replace MA := OutM.below MA BB
  replace s1 := At.mono s1 BB
  clear BB
  generalize ((w18.alloc (.cells #[.int .u8 3, .int .i64 0, .string ⟨#[98]⟩, .int .u8 2, .int .i64 (1), .string ⟨#[]⟩, .int .u8 2, .int .i64 (2), .string ⟨#[]⟩] 38)).alloc (.cells #[.slice (some ⟨g_s1, 0, none⟩) 3 3, .slice (some ⟨w18.heap.size, 0, none⟩) 3 3] 36)) = x19 at b0 MA s1 s2 zq ⊢
  generalize w18.heap.size + 1 = g_zq at zq ⊢
  generalize w18.heap.size = g_s2 at s2 zq ⊢
  have tX := tabAt (rs := [⟨some ⟨g_s1, 0, none⟩, 3, 3, [txtG aG, numG (2), numG (4)]⟩, ⟨some ⟨g_s2, 0, none⟩, 3, 3, [txtG bG, numG (1), numG (2)]⟩]) zq (fun r hr => by
    simp only [List.mem_cons, List.not_mem_nil, or_false] at hr
    rcases hr with rfl | rfl
    · exact (rowAt (l := [txtG aG, numG (2), numG (4)]) s1 (Nat.le_of_ble_eq_true rfl) (by decide))
    · exact (rowAt (l := [txtG bG, numG (1), numG (2)]) s2 (Nat.le_of_ble_eq_true rfl) (by decide)))
  have hsm := samerows_any aA nA cA rsA (some ⟨g_zq, 0, none⟩) 2 2 _ x19 ⟨Own.cs MA.O, fun r hr => (MA.F r hr).1⟩ tX (OwnRs.length MA.O) rfl hleA (by decide) hmxA (by decide)
  rw [decide_eq_true (by rw [HRA.out]; rfl)] at hsm
  have HSM := Lib.hid hsm
  clear hsm tX
  refine HSM.out.mono ?_
  rintro e w20 ⟨rfl, bt⟩
  replace b0 := Below.next b0 bt
  replace MA := OutM.below MA bt
  replace s1 := At.mono s1 bt
  replace s2 := At.mono s2 bt
  replace zq := At.mono zq bt
  clear bt HSM
  clear s1
  clear s2
  clear zq
  clear MA
  go_wp2_with (first | (at_make; refine Stop.un ?_) | (at_builtin; refine Stop.un ?_) | (with_reducible refine Stop.conv 22 9 ?_) | (with_reducible refine Stop.conv 9 22 ?_))
  refine (num_any22 (9223372036854775807) _).mono ?_
  rintro e w21 ⟨rfl, bt⟩
  replace b0 := Below.next b0 bt
  clear bt
  go_wp2_with (first | (at_make; refine Stop.un ?_) | (at_builtin; refine Stop.un ?_) | (with_reducible refine Stop.conv 22 9 ?_) | (with_reducible refine Stop.conv 9 22 ?_))
  have hsz0 := b0.size
  clear hsz0
  have r4 : At (w21.alloc (.cells #[.int .u8 2, .int .i64 (9223372036854775807), .string ⟨#[]⟩] 38)) (w21.heap.size) #[.int .u8 2, .int .i64 (9223372036854775807), .string ⟨#[]⟩] 38 := by simpa only [World.size_alloc, Nat.add_assoc, Nat.reduceAdd] using At.new w21 #[.int .u8 2, .int .i64 (9223372036854775807), .string ⟨#[]⟩] 38
  have BB : Below w21.heap.size w21 (w21.alloc (.cells #[.int .u8 2, .int .i64 (9223372036854775807), .string ⟨#[]⟩] 38)) := Below.alloc (Below.refl w21.heap.size w21) (by (try simp only [World.size_alloc]) <;> omega) (.cells #[.int .u8 2, .int .i64 (9223372036854775807), .string ⟨#[]⟩] 38)
  replace b0 := Below.next b0 BB
  clear BB
  generalize (w21.alloc (.cells #[.int .u8 2, .int .i64 (9223372036854775807), .string ⟨#[]⟩] 38)) = x23 at b0 r4 ⊢
  generalize w21.heap.size = g_r4 at r4 ⊢
  refine (num_any22 (1) _).mono ?_
  rintro e w22 ⟨rfl, bt⟩
  replace b0 := Below.next b0 bt
  replace r4 := At.mono r4 bt
  clear bt
  go_wp2_with (first | (at_make; refine Stop.un ?_) | (at_builtin; refine Stop.un ?_) | (with_reducible refine Stop.conv 22 9 ?_) | (with_reducible refine Stop.conv 9 22 ?_))
  have hsz0 := b0.size
  have HB_zB : Hid (w.heap.size ≤ w22.heap.size + 1) := Lib.hid (by omega)
  have HN_zB_r4 : Hid (g_r4 ≠ w22.heap.size + 1) := Lib.hid (by have := r4.lt; omega)
  have HN_zB_r5 : Hid (w22.heap.size ≠ w22.heap.size + 1) := Lib.hid (by omega)
  clear hsz0
  have r5 : At ((((w22.alloc (.cells #[.int .u8 2, .int .i64 (1), .string ⟨#[]⟩] 38)).alloc (.cells #[.slice (some ⟨g_r4, 0, none⟩) 1 1, .slice (some ⟨w22.heap.size, 0, none⟩) 1 1] 36)).alloc (.cells #[.int .u8 2] 5)).alloc (.cells #[.int .u8 3, .int .i64 0] 34)) (w22.heap.size) #[.int .u8 2, .int .i64 (1), .string ⟨#[]⟩] 38 := by simpa only [World.size_alloc, Nat.add_assoc, Nat.reduceAdd] using (((At.new w22 #[.int .u8 2, .int .i64 (1), .string ⟨#[]⟩] 38).alloc (.cells #[.slice (some ⟨g_r4, 0, none⟩) 1 1, .slice (some ⟨w22.heap.size, 0, none⟩) 1 1] 36)).alloc (.cells #[.int .u8 2] 5)).alloc (.cells #[.int .u8 3, .int .i64 0] 34)
  have zB : At ((((w22.alloc (.cells #[.int .u8 2, .int .i64 (1), .string ⟨#[]⟩] 38)).alloc (.cells #[.slice (some ⟨g_r4, 0, none⟩) 1 1, .slice (some ⟨w22.heap.size, 0, none⟩) 1 1] 36)).alloc (.cells #[.int .u8 2] 5)).alloc (.cells #[.int .u8 3, .int .i64 0] 34)) (w22.heap.size + 1) #[.slice (some ⟨g_r4, 0, none⟩) 1 1, .slice (some ⟨w22.heap.size, 0, none⟩) 1 1] 36 := by simpa only [World.size_alloc, Nat.add_assoc, Nat.reduceAdd] using ((At.new (w22.alloc (.cells #[.int .u8 2, .int .i64 (1), .string ⟨#[]⟩] 38)) #[.slice (some ⟨g_r4, 0, none⟩) 1 1, .slice (some ⟨w22.heap.size, 0, none⟩) 1 1] 36).alloc (.cells #[.int .u8 2] 5)).alloc (.cells #[.int .u8 3, .int .i64 0] 34)
  have k2 : At ((((w22.alloc (.cells #[.int .u8 2, .int .i64 (1), .string ⟨#[]⟩] 38)).alloc (.cells #[.slice (some ⟨g_r4, 0, none⟩) 1 1, .slice (some ⟨w22.heap.size, 0, none⟩) 1 1] 36)).alloc (.cells #[.int .u8 2] 5)).alloc (.cells #[.int .u8 3, .int .i64 0] 34)) (w22.heap.size + 2) #[.int .u8 2] 5 := by simpa only [World.size_alloc, Nat.add_assoc, Nat.reduceAdd] using (At.new ((w22.alloc (.cells #[.int .u8 2, .int .i64 (1), .string ⟨#[]⟩] 38)).alloc (.cells #[.slice (some ⟨g_r4, 0, none⟩) 1 1, .slice (some ⟨w22.heap.size, 0, none⟩) 1 1] 36)) #[.int .u8 2] 5).alloc (.cells #[.int .u8 3, .int .i64 0] 34)
  have a2 : At ((((w22.alloc (.cells #[.int .u8 2, .int .i64 (1), .string ⟨#[]⟩] 38)).alloc (.cells #[.slice (some ⟨g_r4, 0, none⟩) 1 1, .slice (some ⟨w22.heap.size, 0, none⟩) 1 1] 36)).alloc (.cells #[.int .u8 2] 5)).alloc (.cells #[.int .u8 3, .int .i64 0] 34)) (w22.heap.size + 3) #[.int .u8 3, .int .i64 0] 34 := by simpa only [World.size_alloc, Nat.add_assoc, Nat.reduceAdd] using At.new (((w22.alloc (.cells #[.int .u8 2, .int .i64 (1), .string ⟨#[]⟩] 38)).alloc (.cells #[.slice (some ⟨g_r4, 0, none⟩) 1 1, .slice (some ⟨w22.heap.size, 0, none⟩) 1 1] 36)).alloc (.cells #[.int .u8 2] 5)) #[.int .u8 3, .int .i64 0] 34
  have BB : Below w22.heap.size w22 ((((w22.alloc (.cells #[.int .u8 2, .int .i64 (1), .string ⟨#[]⟩] 38)).alloc (.cells #[.slice (some ⟨g_r4, 0, none⟩) 1 1, .slice (some ⟨w22.heap.size, 0, none⟩) 1 1] 36)).alloc (.cells #[.int .u8 2] 5)).alloc (.cells #[.int .u8 3, .int .i64 0] 34)) := Below.alloc (Below.alloc (Below.alloc (Below.alloc (Below.refl w22.heap.size w22) (by (try simp only [World.size_alloc]) <;> omega) (.cells #[.int .u8 2, .int .i64 (1), .string ⟨#[]⟩] 38)) (by (try simp only [World.size_alloc]) <;> omega) (.cells #[.slice (some ⟨g_r4, 0, none⟩) 1 1, .slice (some ⟨w22.heap.size, 0, none⟩) 1 1] 36)) (by (try simp only [World.size_alloc]) <;> omega) (.cells #[.int .u8 2] 5)) (by (try simp only [World.size_alloc]) <;> omega) (.cells #[.int .u8 3, .int .i64 0] 34)
  replace b0 := Below.next b0 BB
  replace r4 := At.mono r4 BB
  clear BB
  generalize ((((w22.alloc (.cells #[.int .u8 2, .int .i64 (1), .string ⟨#[]⟩] 38)).alloc (.cells #[.slice (some ⟨g_r4, 0, none⟩) 1 1, .slice (some ⟨w22.heap.size, 0, none⟩) 1 1] 36)).alloc (.cells #[.int .u8 2] 5)).alloc (.cells #[.int .u8 3, .int .i64 0] 34)) = x24 at b0 r4 r5 zB k2 a2 ⊢
  generalize w22.heap.size + 3 = g_a2 at a2 HB_zB HN_zB_r4 HN_zB_r5 ⊢
  generalize w22.heap.size + 2 = g_k2 at k2 a2 HB_zB HN_zB_r4 HN_zB_r5 ⊢
  generalize w22.heap.size + 1 = g_zB at zB k2 a2 HB_zB HN_zB_r4 HN_zB_r5 ⊢
  generalize w22.heap.size = g_r5 at r5 zB k2 a2 HB_zB HN_zB_r4 HN_zB_r5 ⊢
  have tR := tabAt (rs := [⟨some ⟨g_r4, 0, none⟩, 1, 1, [numG (9223372036854775807)]⟩, ⟨some ⟨g_r5, 0, none⟩, 1, 1, [numG (1)]⟩]) zB (fun r hr => by
    simp only [List.mem_cons, List.not_mem_nil, or_false] at hr
    rcases hr with rfl | rfl
    · exact (rowAt (l := [numG (9223372036854775807)]) r4 (Nat.le_of_ble_eq_true rfl) (by decide))
    · exact (rowAt (l := [numG (1)]) r5 (Nat.le_of_ble_eq_true rfl) (by decide)))
  have hgr := grows_any (some ⟨g_k2, 0, none⟩) 1 1 [2] (some ⟨g_zB, 0, none⟩) 2 2 _ none 0 0 [] (some ⟨g_a2, 0, none⟩) 1 1 [⟨3, 0⟩] x24 (At.cs15 (xs := bcells [2]) k2) rfl (by decide) (by decide) tR rfl (by decide) (by decide) (by decide) (fun r hr => by
    simp only [List.mem_cons, List.not_mem_nil, or_false] at hr
    rcases hr with rfl | rfl
    · exact Nat.le_of_ble_eq_true rfl
    · exact Nat.le_of_ble_eq_true rfl) (Cs.nil _ _) rfl (by decide) (by decide) (by decide) (At.cs15 (xs := agcells [⟨3, 0⟩]) a2) rfl (by decide) (by decide) (by decide)
  simp only [List.map_cons, List.map_nil] at hgr
  obtain ⟨RS, hRS⟩ : ∃ RS, grpB [2] [[numG 9223372036854775807], [numG 1]] [] [⟨3, 0⟩] = (220, RS) := ⟨_, Prod.ext sg2 rfl⟩
  rw [hRS] at hgr
  have HGR := Lib.hid hgr
  clear hgr tR
  refine HGR.out.mono ?_
  rintro e w25 ⟨aZ, nZ, cZ, rsZ, rfl, MZ, hZ⟩
  clear HGR
  have bt := Own.below MZ.O
  replace b0 := Below.next b0 bt
  replace r4 := At.mono r4 bt
  replace r5 := At.mono r5 bt
  replace zB := At.mono zB bt
  replace k2 := At.mono k2 bt
  replace a2 := At.mono a2 bt
  clear bt
  clear MZ hZ
  clear k2
  clear a2
  go_wp2_with (first | (at_make; refine Stop.un ?_) | (at_builtin; refine Stop.un ?_) | (with_reducible refine Stop.conv 22 9 ?_) | (with_reducible refine Stop.conv 9 22 ?_))
  have hsz0 := b0.size
  have HN_k3_zB : Hid (g_zB ≠ w25.heap.size) := Lib.hid (by have := zB.lt; omega)
  clear hsz0
  have k3 : At (w25.alloc (.cells #[.int .u8 2] 5)) (w25.heap.size) #[.int .u8 2] 5 := by simpa only [World.size_alloc, Nat.add_assoc, Nat.reduceAdd] using At.new w25 #[.int .u8 2] 5
  have BB : Below w25.heap.size w25 (w25.alloc (.cells #[.int .u8 2] 5)) := Below.alloc (Below.refl w25.heap.size w25) (by (try simp only [World.size_alloc]) <;> omega) (.cells #[.int .u8 2] 5)
  replace b0 := Below.next b0 BB
  replace r4 := At.mono r4 BB
  replace r5 := At.mono r5 BB
  replace zB := At.mono zB BB
  clear BB
  generalize (w25.alloc (.cells #[.int .u8 2] 5)) = x27 at b0 r4 r5 zB k3 ⊢
  generalize w25.heap.size = g_k3 at k3 HN_k3_zB ⊢
  refine (num_any22 (-1) _).mono ?_
  rintro e w26 ⟨rfl, bt⟩
  replace b0 := Below.next b0 bt
  replace r4 := At.mono r4 bt
  replace r5 := At.mono r5 bt
  replace zB := At.mono zB bt
  replace k3 := At.mono k3 bt
  clear bt
  go_wp2_with (first | (at_make; refine Stop.un ?_) | (at_builtin; refine Stop.un ?_) | (with_reducible refine Stop.conv 22 9 ?_) | (with_reducible refine Stop.conv 9 22 ?_))
  have hsz0 := b0.size
  have HN_r6_zB : Hid (g_zB ≠ w26.heap.size) := Lib.hid (by have := zB.lt; omega)
  have HN_zX_zB : Hid (g_zB ≠ w26.heap.size + 1) := Lib.hid (by have := zB.lt; omega)
  clear hsz0
  have r6 : At ((w26.alloc (.cells #[.int .u8 2, .int .i64 (-1), .string ⟨#[]⟩] 38)).alloc (.cells #[.slice (some ⟨w26.heap.size, 0, none⟩) 1 1] 36)) (w26.heap.size) #[.int .u8 2, .int .i64 (-1), .string ⟨#[]⟩] 38 := by simpa only [World.size_alloc, Nat.add_assoc, Nat.reduceAdd] using (At.new w26 #[.int .u8 2, .int .i64 (-1), .string ⟨#[]⟩] 38).alloc (.cells #[.slice (some ⟨w26.heap.size, 0, none⟩) 1 1] 36)
  have zX : At ((w26.alloc (.cells #[.int .u8 2, .int .i64 (-1), .string ⟨#[]⟩] 38)).alloc (.cells #[.slice (some ⟨w26.heap.size, 0, none⟩) 1 1] 36)) (w26.heap.size + 1) #[.slice (some ⟨w26.heap.size, 0, none⟩) 1 1] 36 := by simpa only [World.size_alloc, Nat.add_assoc, Nat.reduceAdd] using At.new (w26.alloc (.cells #[.int .u8 2, .int .i64 (-1), .string ⟨#[]⟩] 38)) #[.slice (some ⟨w26.heap.size, 0, none⟩) 1 1] 36
  have BB : Below w26.heap.size w26 ((w26.alloc (.cells #[.int .u8 2, .int .i64 (-1), .string ⟨#[]⟩] 38)).alloc (.cells #[.slice (some ⟨w26.heap.size, 0, none⟩) 1 1] 36)) := Below.alloc (Below.alloc (Below.refl w26.heap.size w26) (by (try simp only [World.size_alloc]) <;> omega) (.cells #[.int .u8 2, .int .i64 (-1), .string ⟨#[]⟩] 38)) (by (try simp only [World.size_alloc]) <;> omega) (.cells #[.slice (some ⟨w26.heap.size, 0, none⟩) 1 1] 36)
  replace b0 := Below.next b0 BB
  replace r4 := At.mono r4 BB
  replace r5 := At.mono r5 BB
  replace zB := At.mono zB BB
  replace k3 := At.mono k3 BB
  clear BB
  generalize ((w26.alloc (.cells #[.int .u8 2, .int .i64 (-1), .string ⟨#[]⟩] 38)).alloc (.cells #[.slice (some ⟨w26.heap.size, 0, none⟩) 1 1] 36)) = x28 at b0 r4 r5 zB k3 r6 zX ⊢
  generalize w26.heap.size + 1 = g_zX at zX HN_r6_zB HN_zX_zB ⊢
  generalize w26.heap.size = g_r6 at r6 zX HN_r6_zB HN_zX_zB ⊢
  have OB : OwnRs w x28 (.slice (some ⟨g_zB, 0, none⟩) 2 2) 2 [⟨some ⟨g_r4, 0, none⟩, 1, 1, [numG (9223372036854775807)]⟩, ⟨some ⟨g_r5, 0, none⟩, 1, 1, [numG (1)]⟩] := ⟨⟨rfl, .inr ⟨g_zB, 2, _, rfl, HB_zB.out, zB, Nat.le_refl _, by decide, rfl, rfl⟩⟩, b0⟩
  refine Stop.mk (app_rws w _ _ rfl rfl OB rfl rfl (news := [⟨some ⟨g_r6, 0, none⟩, 1, 1, [numG (-1)]⟩]) rfl (At.cs15 zX) (by decide) ?_)
  intro aY cY wY OY gY kY
  clear OB
  replace r4 := r4.grownK gY (fun e => HN_zB_r4.out (Option.some.inj e).symm)
  replace r5 := r5.grownK gY (fun e => HN_zB_r5.out (Option.some.inj e).symm)
  replace k3 := k3.grownK gY (fun e => HN_k3_zB.out (Option.some.inj e))
  replace r6 := r6.grownK gY (fun e => HN_r6_zB.out (Option.some.inj e))
  have b0 := Own.below OY
  clear gY kY
  clear zB
  clear zX
  have hcle := owns_le OY.1
  have hcmx : cY ≤ maxLen := owns_max OY.1
  have HCM := Lib.hid hcmx
  unfold maxLen at hcmx
  go_wp2_with (first | (at_make; refine Stop.un ?_) | (at_builtin; refine Stop.un ?_) | (with_reducible refine Stop.conv 22 9 ?_) | (with_reducible refine Stop.conv 9 22 ?_))
  have hsz0 := b0.size
  clear hsz0
  have a3 : At (wY.alloc (.cells #[.int .u8 3, .int .i64 0] 34)) (wY.heap.size) #[.int .u8 3, .int .i64 0] 34 := by simpa only [World.size_alloc, Nat.add_assoc, Nat.reduceAdd] using At.new wY #[.int .u8 3, .int .i64 0] 34
  have BB : Below wY.heap.size wY (wY.alloc (.cells #[.int .u8 3, .int .i64 0] 34)) := Below.alloc (Below.refl wY.heap.size wY) (by (try simp only [World.size_alloc]) <;> omega) (.cells #[.int .u8 3, .int .i64 0] 34)
  replace b0 := Below.next b0 BB
  replace r4 := At.mono r4 BB
  replace r5 := At.mono r5 BB
  replace k3 := At.mono k3 BB
  replace r6 := At.mono r6 BB
  replace OY := Own.keep OY BB
  clear BB
  generalize (wY.alloc (.cells #[.int .u8 3, .int .i64 0] 34)) = x29 at b0 r4 r5 k3 r6 OY a3 ⊢
  generalize wY.heap.size = g_a3 at a3 ⊢
  have tR : Tab x29 aY [⟨some ⟨g_r4, 0, none⟩, 1, 1, [numG (9223372036854775807)]⟩, ⟨some ⟨g_r5, 0, none⟩, 1, 1, [numG (1)]⟩, ⟨some ⟨g_r6, 0, none⟩, 1, 1, [numG (-1)]⟩] := ⟨Own.cs OY, (fun r hr => by
    simp only [List.mem_cons, List.not_mem_nil, or_false] at hr
    rcases hr with rfl | rfl | rfl
    · exact (rowAt (l := [numG (9223372036854775807)]) r4 (Nat.le_of_ble_eq_true rfl) (by decide))
    · exact (rowAt (l := [numG (1)]) r5 (Nat.le_of_ble_eq_true rfl) (by decide))
    · exact (rowAt (l := [numG (-1)]) r6 (Nat.le_of_ble_eq_true rfl) (by decide)))⟩
  have hgr := grows_any (some ⟨g_k3, 0, none⟩) 1 1 [2] aY 3 cY _ none 0 0 [] (some ⟨g_a3, 0, none⟩) 1 1 [⟨3, 0⟩] x29 (At.cs15 (xs := bcells [2]) k3) rfl (by decide) (by decide) tR rfl hcle HCM.out (by decide) (fun r hr => by
    simp only [List.mem_cons, List.not_mem_nil, or_false] at hr
    rcases hr with rfl | rfl | rfl
    · exact Nat.le_of_ble_eq_true rfl
    · exact Nat.le_of_ble_eq_true rfl
    · exact Nat.le_of_ble_eq_true rfl) (Cs.nil _ _) rfl (by decide) (by decide) (by decide) (At.cs15 (xs := agcells [⟨3, 0⟩]) a3) rfl (by decide) (by decide) (by decide)
  simp only [List.map_cons, List.map_nil] at hgr
  rw [sg3] at hgr
  have HGR := Lib.hid hgr
  clear hgr tR
  refine HGR.out.mono ?_
  rintro e w30 ⟨aC, nC, cC, rsC, rfl, MC, hC⟩
  clear HGR
  have bt := Own.below MC.O
  replace b0 := Below.next b0 bt
  replace r4 := At.mono r4 bt
  replace r5 := At.mono r5 bt
  replace k3 := At.mono k3 bt
  replace r6 := At.mono r6 bt
  replace OY := Own.keep OY bt
  replace a3 := At.mono a3 bt
  clear bt
  have HRC := Lib.hid hC
  clear hC
  have hleC := owns_le MC.O.1
  have hmxC : cC ≤ 9223372036854775807 := owns_max MC.O.1
  clear k3
  clear a3
  clear r4
  clear r5
  clear r6
  clear OY
  go_wp2_with (first | (at_make; refine Stop.un ?_) | (at_builtin; refine Stop.un ?_) | (with_reducible refine Stop.conv 22 9 ?_) | (with_reducible refine Stop.conv 9 22 ?_))
  refine (num_any22 (9223372036854775807) _).mono ?_
  rintro e w31 ⟨rfl, bt⟩
  replace b0 := Below.next b0 bt
  replace MC := OutM.below MC bt
  clear bt
  go_wp2_with (first | (at_make; refine Stop.un ?_) | (at_builtin; refine Stop.un ?_) | (with_reducible refine Stop.conv 22 9 ?_) | (with_reducible refine Stop.conv 9 22 ?_))
  have hsz0 := b0.size
  clear hsz0
  have s3 : At ((w31.alloc (.cells #[.int .u8 2, .int .i64 (9223372036854775807), .string ⟨#[]⟩] 38)).alloc (.cells #[.slice (some ⟨w31.heap.size, 0, none⟩) 1 1] 36)) (w31.heap.size) #[.int .u8 2, .int .i64 (9223372036854775807), .string ⟨#[]⟩] 38 := by simpa only [World.size_alloc, Nat.add_assoc, Nat.reduceAdd] using (At.new w31 #[.int .u8 2, .int .i64 (9223372036854775807), .string ⟨#[]⟩] 38).alloc (.cells #[.slice (some ⟨w31.heap.size, 0, none⟩) 1 1] 36)
  have zz : At ((w31.alloc (.cells #[.int .u8 2, .int .i64 (9223372036854775807), .string ⟨#[]⟩] 38)).alloc (.cells #[.slice (some ⟨w31.heap.size, 0, none⟩) 1 1] 36)) (w31.heap.size + 1) #[.slice (some ⟨w31.heap.size, 0, none⟩) 1 1] 36 := by simpa only [World.size_alloc, Nat.add_assoc, Nat.reduceAdd] using At.new (w31.alloc (.cells #[.int .u8 2, .int .i64 (9223372036854775807), .string ⟨#[]⟩] 38)) #[.slice (some ⟨w31.heap.size, 0, none⟩) 1 1] 36
  have BB : Below w31.heap.size w31 ((w31.alloc (.cells #[.int .u8 2, .int .i64 (9223372036854775807), .string ⟨#[]⟩] 38)).alloc (.cells #[.slice (some ⟨w31.heap.size, 0, none⟩) 1 1] 36)) := Below.alloc (Below.alloc (Below.refl w31.heap.size w31) (by (try simp only [World.size_alloc]) <;> omega) (.cells #[.int .u8 2, .int .i64 (9223372036854775807), .string ⟨#[]⟩] 38)) (by (try simp only [World.size_alloc]) <;> omega) (.cells #[.slice (some ⟨w31.heap.size, 0, none⟩) 1 1] 36)
  replace b0 := Below.next b0 BB
  replace MC := OutM.below MC BB
  clear BB
  generalize ((w31.alloc (.cells #[.int .u8 2, .int .i64 (9223372036854775807), .string ⟨#[]⟩] 38)).alloc (.cells #[.slice (some ⟨w31.heap.size, 0, none⟩) 1 1] 36)) = x32 at b0 MC s3 zz ⊢
  generalize w31.heap.size + 1 = g_zz at zz ⊢
  generalize w31.heap.size = g_s3 at s3 zz ⊢
  have tX := tabAt (rs := [⟨some ⟨g_s3, 0, none⟩, 1, 1, [numG (9223372036854775807)]⟩]) zz (fun r hr => by rw [List.mem_singleton.1 hr]; exact (rowAt (l := [numG (9223372036854775807)]) s3 (Nat.le_of_ble_eq_true rfl) (by decide)))
  have hsm := samerows_any aC nC cC rsC (some ⟨g_zz, 0, none⟩) 1 1 _ x32 ⟨Own.cs MC.O, fun r hr => (MC.F r hr).1⟩ tX (OwnRs.length MC.O) rfl hleC (by decide) hmxC (by decide)
  rw [decide_eq_true (by rw [HRC.out]; rfl)] at hsm
  have HSM := Lib.hid hsm
  clear hsm tX
  refine HSM.out.mono ?_
  rintro e w33 ⟨rfl, bt⟩
  replace b0 := Below.next b0 bt
  replace MC := OutM.below MC bt
  replace s3 := At.mono s3 bt
  replace zz := At.mono zz bt
  clear bt HSM
  go_wp2_with (first | (at_make; refine Stop.un ?_) | (at_builtin; refine Stop.un ?_) | (with_reducible refine Stop.conv 22 9 ?_) | (with_reducible refine Stop.conv 9 22 ?_))
  go_ret
  exact ⟨by first | rfl | simp, b0⟩
end Go.Proofs.Ytbiniecjenencaa
