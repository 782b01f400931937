/- OrderKeeps: the rows that it makes, and what is known of them once they are sorted. -/
import Derived.Test.YtoggjieagnlneaaOKeepP
import Derived.Test.YtoggjieagnlneaaAppZ
import Derived.Test.YtoggjieagnlneaaODeep
import Derived.Test.YtoggjieagnlneaaStb
set_option linter.unusedVariables false
set_option linter.unusedSimpArgs false
namespace Go.Proofs.Ytoggjieagnlneaa
open Go.RowKit
/-- append of values to a row that has memory of its own. -/
theorem app_rsk {w : World} {ops : Array Oper} {rest : List Oper} {o : Oper} {a : Act} {Q : Exit → Act → World → Prop} (w0 : World) (s x : Operand)
    (hgd : Region.wanted o (yielded ops a.tmps) = true) (ho : o.op = .call { callee := .builtin .append, args := #[s, x], argTypes := #[23, 23] })
    {g c n : Nat} {l : List V} (hown : OwnV w0 w (.slice (some ⟨g, 0, none⟩) n c) n l) (hs : a.eval s = .slice (some ⟨g, 0, none⟩) n c)
    {ao : Option Addr} {m cap : Nat} {news : List V} (hx : a.eval x = .slice ao m cap) (hm : news.length = m) (hc : Cs w ao (vcells news)) (hb : (n + m) * 32 ≤ 140737488355328)
    (h : ∀ g' cap w', OwnV w0 w' (.slice (some ⟨g', 0, none⟩) (n + m) cap) (n + m) (l ++ news) → w.grownBy w' (some g) → (g' = g ∨ w.heap.size ≤ g') → wpList Try.prog ops Q rest (a.put o.dst (.slice (some ⟨g', 0, none⟩) (n + m) cap)) w') :
    wpList Try.prog ops Q (o :: rest) a w :=
  wpList_append_Own w0 32 (.agg #[.int .u8 0, .int .i64 0, .string ⟨#[]⟩]) 3 32 Try.infoV rfl (by decide) s x 23 23 Try.underlying23 hgd ho _ n (vcells l) hown hs _ m (vcells news) hx
    (Src.ofCs Try.underlying23 hc (by rw [vcells_length, hm]) (vcells_one _)) hb (by omega) (fun ao cap w' h1 h2 h3 h4 => by
      rw [← vcells_append] at h1
      rcases h1.1.2 with ⟨e, _⟩ | ⟨g', cap', cur, e, _⟩
      · simp only [Value.slice.injEq] at e
        have := (h3.1 e.1).1
        simp at this
      · simp only [Value.slice.injEq] at e
        obtain ⟨rfl, -, rfl⟩ := e
        refine h g' cap w' h1 h2 ?_
        rcases h4 g' rfl with h5 | h5
        · exact .inl (Option.some.inj h5).symm
        · exact .inr h5)
/-- append of one value in a new block to such a row. -/
theorem app_rv1 {w : World} {c : V} {e : TypeId} {ops : Array Oper} {rest : List Oper} {o : Oper} {a : Act} {Q : Exit → Act → World → Prop} (w0 : World) (s x : Operand)
    (hgd : Region.wanted o (yielded ops a.tmps) = true) (ho : o.op = .call { callee := .builtin .append, args := #[s, x], argTypes := #[23, 23] })
    {g n cp : Nat} {l : List V} (hown : OwnV w0 w (.slice (some ⟨g, 0, none⟩) n cp) n l) (hs : a.eval s = .slice (some ⟨g, 0, none⟩) n cp)
    (hx : a.eval x = .slice (some ⟨w.heap.size, 0, none⟩) 1 1) (hb : (n + 1) * 32 ≤ 140737488355328)
    (h : ∀ g' cap w', OwnV w0 w' (.slice (some ⟨g', 0, none⟩) (n + 1) cap) (n + 1) (l ++ [c]) → w.grownBy w' (some g) → (g' = g ∨ w.heap.size ≤ g') → wpList Try.prog ops Q rest (a.put o.dst (.slice (some ⟨g', 0, none⟩) (n + 1) cap)) w') :
    wpList Try.prog ops Q (o :: rest) a (w.alloc (.cells #[.int .u8 c.k, .int .i64 c.n, .string c.s] e)) :=
  app_rsk w0 s x hgd ho (Own.alloc hown _) hs hx rfl (vcs_new w c e) hb
    (fun g' cap w' h2 h3 h4 => h g' cap w' h2 ⟨h3.os, h3.tape, h3.output, Nat.le_trans (by simp) h3.size, fun k hk hn => (h3.block k (by simp; omega) hn).trans (Below.heap_alloc _ _ _ hk)⟩
      (h4.imp id (fun hh => by simp at hh; omega)))
def plcV (j : Nat) : V := ⟨2, (j : Int), ⟨#[]⟩⟩
/-- A row of the law's: up to 8 values, 20 in all, and its place. -/
def keepL (j : Nat) (l : List V) : List V := l.take (min l.length 8) ++ List.replicate (20 - min l.length 8) ⟨0, 0, ⟨#[]⟩⟩ ++ [plcV j]
def keepM (X : List (List V)) : List (List V) := X.mapIdx keepL
theorem keepM_length (X : List (List V)) : (keepM X).length = X.length := by simp [keepM]
theorem keepM_succ (X : List (List V)) (j : Nat) (h : j < X.length) : keepM (X.take (j + 1)) = keepM (X.take j) ++ [keepL j X[j]] := by
  unfold keepM
  rw [List.take_succ_eq_append_getElem h, List.mapIdx_concat, List.length_take, Nat.min_eq_left (by omega)]
theorem keepL_base (j : Nat) (l : List V) : (l.take (min l.length 8) ++ List.replicate (20 - min l.length 8) (⟨0, 0, ⟨#[]⟩⟩ : V)).length = 20 := by
  rw [List.length_append, List.length_take, List.length_replicate]
  omega
theorem keepL_length (j : Nat) (l : List V) : (keepL j l).length = 21 := by
  unfold keepL
  rw [List.length_append, keepL_base j]
  rfl
theorem keepL_place (j : Nat) (l : List V) : (keepL j l)[20]? = some (plcV j) := by
  unfold keepL
  rw [List.getElem?_append_right (by rw [keepL_base j]; exact Nat.le_refl _), keepL_base j]
  rfl
def plc (l : List V) : Nat := match l[20]? with | some v => v.n.toNat | none => 0
theorem plc_keepL (j : Nat) (l : List V) : plc (keepL j l) = j := by
  unfold plc
  rw [keepL_place]
  rfl
theorem keepM_get (X : List (List V)) (p : Nat) (h : p < (keepM X).length) : (keepM X)[p] = keepL p (X[p]'(by rw [← keepM_length]; exact h)) := by
  simp [keepM]
theorem keepM_plc (X : List (List V)) : (keepM X).map plc = List.range X.length := by
  apply List.ext_getElem
  · simp [keepM_length]
  · intro i h1 h2
    rw [List.getElem_map, keepM_get, plc_keepL, List.getElem_range]
/-- What is known of the sorted rows q of the rows x. -/
def KeepAll (ks : List Ky) (q x : List Rw) (pl : List Nat) (n : Nat) : Prop :=
  (∀ i, i < n → ∃ r p r', q[i]? = some r ∧ x[p]? = some r' ∧ p < n ∧ pl[i]? = some p ∧ p ∉ pl.take i ∧ r.l.length = 21 ∧ r.l[20]? = some (plcV p) ∧ r.l = r'.l) ∧
  (∀ i r r2 p p2, q[i]? = some r → q[i + 1]? = some r2 → pl[i]? = some p → pl[i + 1]? = some p2 → cmpR r.l r2.l ks = 0 → p ≤ p2)
theorem keepAll_of (ks : List Ky) (q x : List Rw) (L : List (List V)) (hx : x.map (·.l) = keepM L) (hq : q.map (·.l) = sortL ks (keepM L)) : ∃ pl, KeepAll ks q x pl L.length := by
  have hneg : ∀ a b : List V, cmpR b a ks = - cmpR a b ks := fun a b => cmpR_neg a b ks
  have htr : ∀ a b d : List V, cmpR a b ks ≤ 0 → cmpR b d ks ≤ 0 → cmpR a d ks ≤ 0 := fun a b d h1 h2 => by
    have := cmpR_tri a b d ks
    unfold Tri at this
    omega
  have hql : q.length = L.length := by
    have := congrArg List.length hq
    rw [List.length_map] at this
    rw [this]
    unfold sortL
    rw [sortB_length, keepM_length]
  have hxl : x.length = L.length := by
    have := congrArg List.length hx
    rw [List.length_map] at this
    rw [this, keepM_length]
  have hpl : q.map (fun r => plc r.l) = (sortL ks (keepM L)).map plc := by
    rw [← hq, List.map_map]
    rfl
  have hnd : (q.map (fun r => plc r.l)).Nodup := by
    rw [hpl]
    have h1 : ((sortL ks (keepM L)).map plc).Perm (List.range L.length) := by
      rw [← keepM_plc]
      exact (sortB_perm (fun a b => cmpR a b ks) (keepM L)).map plc
    exact h1.nodup_iff.2 List.nodup_range
  refine ⟨q.map (fun r => plc r.l), ?_, ?_⟩
  · intro i hi
    have hiq : i < q.length := by omega
    have hm : q[i].l ∈ keepM L := by
      have : q[i].l ∈ q.map (·.l) := List.mem_map.2 ⟨q[i], List.getElem_mem _, rfl⟩
      rw [hq] at this
      exact (sortB_perm (fun a b => cmpR a b ks) (keepM L)).mem_iff.1 this
    obtain ⟨p, hp, he⟩ := List.getElem_of_mem hm
    have hp2 : p < L.length := by rwa [keepM_length] at hp
    have hpx : p < x.length := by omega
    have hxe : x[p].l = q[i].l := by
      rw [← he]
      have : (x.map (·.l))[p]'(by simpa using hpx) = (keepM L)[p] := by simp only [hx]
      simpa using this
    have he2 := he
    rw [keepM_get] at he2
    have hpe : plc q[i].l = p := by rw [← he2, plc_keepL]
    refine ⟨q[i], p, x[p], List.getElem?_eq_getElem hiq, List.getElem?_eq_getElem hpx, hp2, ?_, ?_, ?_, ?_, hxe.symm⟩
    · rw [List.getElem?_map, List.getElem?_eq_getElem hiq]
      simp [hpe]
    · intro hmem
      obtain ⟨j, hj, e⟩ := List.mem_take_iff_getElem.1 hmem
      simp only [List.length_map] at hj
      have e2 : (q.map (fun r => plc r.l))[j]'(by simp; omega) = (q.map (fun r => plc r.l))[i]'(by simpa using hiq) := by
        rw [e]
        simp [hpe]
      exact List.pairwise_iff_getElem.1 hnd j i (by simp; omega) (by simpa using hiq) (by omega) e2
    · rw [← he2, keepL_length]
    · rw [← he2, keepL_place]
  · intro i r r2 p p2 h1 h2 h3 h4 h0
    rw [List.getElem?_map, h1] at h3
    rw [List.getElem?_map, h2] at h4
    simp only [Option.map_some, Option.some.injEq] at h3 h4
    have hS : (keepM L).Pairwise (fun a b => ((plc a : Nat) : Int) ≤ ((plc b : Nat) : Int)) := by
      rw [List.pairwise_iff_getElem]
      intro a b ha hb hab
      rw [keepM_get, keepM_get, plc_keepL, plc_keepL]
      omega
    have hx1 : (sortB (fun a b => cmpR a b ks) (keepM L))[i]? = some r.l := by
      have : (sortL ks (keepM L))[i]? = some r.l := by rw [← hq, List.getElem?_map, h1]; rfl
      exact this
    have hx2 : (sortB (fun a b => cmpR a b ks) (keepM L))[i + 1]? = some r2.l := by
      have : (sortL ks (keepM L))[i + 1]? = some r2.l := by rw [← hq, List.getElem?_map, h2]; rfl
      exact this
    have h9 : ((plc r.l : Nat) : Int) ≤ ((plc r2.l : Nat) : Int) := sortB_keeps (fun a b => cmpR a b ks) (fun l => ((plc l : Nat) : Int)) hneg htr (keepM L) hS i r.l r2.l hx1 hx2 h0
    omega
/-- Which places were had. -/
def hadA (S : List Nat) : Array Value := ((List.range 100).map (fun k => Value.bool (decide (k ∈ S)))).toArray
theorem hadA_get (S : List Nat) (k : Nat) (h : k < 100) : (hadA S)[k]? = some (.bool (decide (k ∈ S))) := by
  simp [hadA, h]
theorem hadA_set (S : List Nat) (k : Nat) (h : k < 100) : (hadA S).setIfInBounds k (.bool true) = hadA (S ++ [k]) := by
  apply Array.ext'
  apply List.ext_getElem
  · simp [hadA]
  · intro i h1 h2
    simp only [hadA, List.length_map, List.length_range] at h2
    simp only [hadA, Array.toList_setIfInBounds, List.getElem_set, List.getElem_map, List.getElem_range, List.mem_append, List.mem_singleton]
    by_cases e : k = i
    · subst e
      simp
    · rw [if_neg e]
      congr 1
      simp [Ne.symm e]
theorem hadA_nil : hadA [] = (List.replicate 100 (Value.bool false)).toArray := by
  apply Array.ext'
  apply List.ext_getElem
  · simp [hadA]
  · intro i h1 h2
    rw [show (List.replicate 100 (Value.bool false)).toArray.toList = List.replicate 100 (Value.bool false) from rfl] at h2
    simp only [hadA, List.getElem_map, List.not_mem_nil, decide_false]
    exact (List.getElem_replicate h2).symm
end Go.Proofs.Ytoggjieagnlneaa
