/- A tree of losers in memory; a list's row, and which of two comes ahead. -/
import Derived.Test.YtfhlbiddhgkcpaaLosP
import Derived.Test.YtfhlbiddhgkcpaaOOwn
set_option linter.unusedVariables false
set_option linter.unusedSimpArgs false
namespace Go.Proofs.Ytfhlbiddhgkcpaa
open Go.RowKit
/-- All but blocks of P is as it was. -/
structure Oth (P : Nat → Prop) (w x : World) : Prop where
  os : x.os = w.os
  tape : x.tape = w.tape
  output : x.output = w.output
  size : w.heap.size ≤ x.heap.size
  block : ∀ k, k < w.heap.size → ¬ P k → x.heap[k]? = w.heap[k]?
section
variable {P : Nat → Prop} {w x : World}
theorem Oth.refl (P : Nat → Prop) (w : World) : Oth P w w := ⟨rfl, rfl, rfl, Nat.le_refl _, fun _ _ _ => rfl⟩
theorem Oth.trans {y : World} (h : Oth P w x) (k : Oth P x y) : Oth P w y := ⟨k.os.trans h.os, k.tape.trans h.tape, k.output.trans h.output, Nat.le_trans h.size k.size, fun i hi hn => (k.block i (Nat.lt_of_lt_of_le hi h.size) hn).trans (h.block i hi hn)⟩
theorem Oth.of_below (P : Nat → Prop) (h : Below w.heap.size w x) : Oth P w x := ⟨h.os, h.tape, h.output, h.size, fun k hk _ => h.block k hk⟩
theorem Oth.below {y : World} (h : Oth P w x) (k : Below x.heap.size x y) : Oth P w y := h.trans (Oth.of_below P k)
theorem Oth.set (h : Oth P w x) (a : Addr) (v : Value) (ha : P a.block ∨ w.heap.size ≤ a.block) : Oth P w (x.setCell a v) := by
  refine ⟨h.os, h.tape, h.output, Nat.le_trans h.size (by simp [World.setCell]), fun k hk hn => ?_⟩
  rw [Below.heap_setCell x a v k (fun e => by
    rcases ha with ha | ha
    · exact hn (by rw [e]; exact ha)
    · omega)]
  exact h.block k hk hn
theorem Oth.mono {Q : Nat → Prop} (h : Oth P w x) (hq : ∀ k, k < w.heap.size → P k → Q k) : Oth Q w x := ⟨h.os, h.tape, h.output, h.size, fun k hk hn => h.block k hk (fun hp => hn (hq k hk hp))⟩
/-- A store into blocks that were not there when the call began. -/
theorem Oth.low {B : Nat} (h : Oth P w x) (hp : ∀ k, P k → B ≤ k) (hB : B ≤ w.heap.size) : Below B w x := ⟨h.os, h.tape, h.output, h.size, fun k hk => h.block k (by omega) (fun hpk => by have := hp k hpk; omega)⟩
theorem Oth.at {g : Nat} {cs : Array Value} {t : TypeId} (h : Oth P w x) (z : At w g cs t) (hg : ¬ P g) : At x g cs t := (h.block g z.lt hg).trans z
theorem Oth.cs {ao : Option Addr} {xs : List Value} (h : Oth P w x) (hc : Cs w ao xs) (ha : xs ≠ [] → ∀ a, ao = some a → ¬ P a.block) : Cs x ao xs := by
  intro j u hj
  obtain ⟨b, o, e, hcell⟩ := hc j u hj
  have hne : xs ≠ [] := fun e0 => by rw [e0] at hj; simp at hj
  refine ⟨b, o, e, ?_⟩
  rw [World.cell?_of_block (a := ⟨b, o + j, none⟩) (h.block b (lt_cell hcell) (ha hne _ e))]
  exact hcell
theorem Oth.row {r : Rw} (h : Oth P w x) (o : RowOk w r) (ha : ∀ a, r.a = some a → ¬ P a.block) : RowOk x r := ⟨h.cs o.cs (fun _ => ha), o.len, o.le, o.max, o.kind⟩
theorem Oth.owns {base : Nat} {e : TypeId} {size : Nat} {v : Value} {n : Nat} {xs : List Value} (h : Oth P w x) (o : w.ownsRow base e size v n xs) (ha : ∀ k, v.ownBlock = some k → ¬ P k) : x.ownsRow base e size v n xs := by
  refine ⟨o.1, ?_⟩
  rcases o.2 with hn | ⟨g, cap, cur, rfl, hb, hgg, rest⟩
  · exact .inl hn
  · exact .inr ⟨g, cap, cur, rfl, hb, (h.block g (Array.getElem?_eq_some_iff.1 hgg).1 (ha g rfl)).trans hgg, rest⟩
end
/-- Where a tree lies. -/
structure Tr where
  g : Nat
  gs : Nat
  ah : Option Addr
  ch : Nat
  ak : Option Addr
  p : Nat
  ck : Nat
/-- The blocks that the tree's functions write. -/
def Tr.mut (t : Tr) (k : Nat) : Prop := k = t.g ∨ k = t.gs ∨ ∃ a, t.ah = some a ∧ a.block = k
def hd (r : Rw) : Option (List V) := match r.a with
  | none => none
  | some _ => some r.l
def hds (H : List Rw) : List (Option (List V)) := H.map hd
def rw (H : List Rw) (i : Nat) : Rw := H.getD i nilRw
theorem gt_hds (H : List Rw) (i : Nat) : gt (hds H) i = hd (rw H i) := by
  unfold gt hds rw
  rw [List.getD_eq_getElem?_getD, List.getD_eq_getElem?_getD, List.getElem?_map]
  cases H[i]? <;> rfl
/-- The tree t with the rows H, the keys ks, the slots S, which has asked q times; the blocks of A are not its own. -/
structure Tre (t : Tr) (H : List Rw) (ks : List Ky) (S : List Nat) (q : Nat) (A : Nat → Prop) (w : World) : Prop where
  z : At w t.g #[.slice t.ah H.length t.ch, .slice t.ak t.p t.ck, .slice (some ⟨t.gs, 0, none⟩) S.length S.length, .int .i64 q] 54
  zs : At w t.gs (S.map (fun k : Nat => Value.int .i64 k)).toArray 3
  hh : w.ownsRow 0 26 1 (.slice t.ah H.length t.ch) H.length (rwcells H)
  rows : ∀ r ∈ H, RowOk w r ∧ ∀ a, r.a = some a → a.block < w.heap.size ∧ ¬ t.mut a.block ∧ ¬ A a.block
  kcs : Cs w t.ak (kcells ks)
  kl : ks.length = t.p
  kle : t.p ≤ t.ck
  kmx : t.ck ≤ maxLen
  kad : ks ≠ [] → ∀ a, t.ak = some a → ¬ t.mut a.block ∧ ¬ A a.block
  ne : t.g ≠ t.gs ∧ ∀ a, t.ah = some a → a.block ≠ t.g ∧ a.block ≠ t.gs
  notA : ∀ k, t.mut k → ¬ A k
  inA : ∀ k, A k → k < w.heap.size
section
variable {t : Tr} {H : List Rw} {ks : List Ky} {S : List Nat} {q : Nat} {A : Nat → Prop} {w x : World}
theorem kcells_ne {ks : List Ky} (h : kcells ks ≠ []) : ks ≠ [] := fun e => h (by rw [e]; rfl)
theorem Tre.ownb (h : Tre t H ks S q A w) : ∀ k, (Value.slice t.ah H.length t.ch).ownBlock = some k → t.mut k := by
  intro k hk
  cases e : t.ah with
  | none => rw [e] at hk; simp [Value.ownBlock] at hk
  | some a =>
    rw [e] at hk
    simp [Value.ownBlock] at hk
    exact .inr (.inr ⟨a, e, hk⟩)
theorem Tre.oth {P : Nat → Prop} (h : Tre t H ks S q A w) (o : Oth P w x) (hP : ∀ k, k < w.heap.size → P k → A k) : Tre t H ks S q A x := by
  have hm : ∀ k, k < w.heap.size → t.mut k → ¬ P k := fun k hk hm hp => h.notA k hm (hP k hk hp)
  have hml : ∀ k, (Value.slice t.ah H.length t.ch).ownBlock = some k → ¬ P k := fun k hk => hm k (h.hh.lt k hk).2 (h.ownb k hk)
  refine ⟨o.at h.z (hm _ h.z.lt (.inl rfl)), o.at h.zs (hm _ h.zs.lt (.inr (.inl rfl))), o.owns h.hh hml, fun r hr => ?_, ?_, h.kl, h.kle, h.kmx, h.kad, h.ne, h.notA, fun k hk => Nat.lt_of_lt_of_le (h.inA k hk) o.size⟩
  · obtain ⟨h1, h2⟩ := h.rows r hr
    exact ⟨o.row h1 (fun a ha hp => (h2 a ha).2.2 (hP _ (h2 a ha).1 hp)), fun a ha => ⟨Nat.lt_of_lt_of_le (h2 a ha).1 o.size, (h2 a ha).2⟩⟩
  · by_cases e : ks = []
    · rw [e]; exact Cs.nil _ _
    · refine o.cs h.kcs (fun hne a ha hp => (h.kad e a ha).2 (hP _ ?_ hp))
      obtain ⟨b, o2, e2, hcell⟩ := h.kcs 0 ((kcells ks)[0]'(List.length_pos_iff.2 hne)) (List.getElem?_eq_getElem _)
      have h3 := ha.symm.trans e2
      rw [Option.some.inj h3]
      exact lt_cell hcell
theorem Tre.below (h : Tre t H ks S q A w) (b : Below w.heap.size w x) : Tre t H ks S q A x := h.oth (Oth.of_below (fun _ => False) b) (fun _ _ hf => hf.elim)
/-- Blocks that are new are not the tree's. -/
theorem Tre.more {A' : Nat → Prop} (h : Tre t H ks S q A w) (b : Below w.heap.size w x) (hA : ∀ k, A' k → (A k ∨ w.heap.size ≤ k) ∧ k < x.heap.size) : Tre t H ks S q A' x := by
  have hx := h.below b
  have hml : ∀ k, t.mut k → k < w.heap.size := fun k hk => by
    rcases hk with rfl | rfl | ⟨a, e, rfl⟩
    · exact h.z.lt
    · exact h.zs.lt
    · exact (h.hh.lt _ (by rw [e]; rfl)).2
  refine ⟨hx.z, hx.zs, hx.hh, fun r hr => ⟨(hx.rows r hr).1, fun a ha => ⟨((hx.rows r hr).2 a ha).1, ((hx.rows r hr).2 a ha).2.1, fun ha2 => ?_⟩⟩, hx.kcs, hx.kl, hx.kle, hx.kmx, fun hne a ha => ⟨(hx.kad hne a ha).1, fun ha2 => ?_⟩, hx.ne, fun k hk ha2 => ?_, fun k hk => (hA k hk).2⟩
  · have h1 := (h.rows r hr).2 a ha
    rcases (hA _ ha2).1 with h2 | h2
    · exact h1.2.2 h2
    · omega
  · rcases (hA _ ha2).1 with h2 | h2
    · exact (h.kad hne a ha).2 h2
    · have hne2 : kcells ks ≠ [] := fun e => hne (by
        cases ks with
        | nil => rfl
        | cons k l => simp [kcells] at e)
      obtain ⟨b2, o2, e2, hcell⟩ := h.kcs 0 ((kcells ks)[0]'(List.length_pos_iff.2 hne2)) (List.getElem?_eq_getElem _)
      have h3 := ha.symm.trans e2
      have h4 := lt_cell hcell
      rw [Option.some.inj h3] at h2
      simp only at h4 h2
      omega
  · have h1 := hml k hk
    rcases (hA _ ha2).1 with h2 | h2
    · exact h.notA k hk h2
    · omega
theorem nilRw_sl : nilRw.sl = .slice none 0 0 := rfl
theorem Tre.rok (h : Tre t H ks S q A w) (i : Nat) : RowOk w (rw H i) := by
  unfold rw
  rw [List.getD_eq_getElem?_getD]
  cases e : H[i]? with
  | none => exact nilRw_ok w
  | some r => exact (h.rows r (List.mem_of_getElem? e)).1
theorem rw_big {i : Nat} (h : H.length ≤ i) : rw H i = nilRw := by
  unfold rw
  rw [List.getD_eq_getElem?_getD, List.getElem?_eq_none h]
  rfl
theorem rw_in {i : Nat} (h : i < H.length) : rw H i = H[i] := by
  unfold rw
  rw [List.getD_eq_getElem?_getD, List.getElem?_eq_getElem h]
  rfl
end
theorem exec_nnilR {ρ : Operand → Value} {x y : Operand} {dst : Option Tmp} {T2 ty : TypeId} {pos : String} {af : Array Edge} {g : Option (Nat × Bool)} (ao : Option Addr) (n cap : Nat) (hx : ρ x = .slice ao n cap) (hy : ρ y = .slice none 0 0) (w : World) :
    (execOp ρ ⟨dst, .binOp .neq 26 x y T2, ty, pos, af, g⟩).run Try.prog w = .ok (.value (.bool (!ao.isNone))) w := by
  have u := Try.underlying26
  have e := run_equal_slice_nil (P := Try.prog) w 26 38 ao n cap u
  have hb : (binOp .neq 26 (.slice ao n cap) (.slice none 0 0)).run Try.prog w = .ok (.bool (!ao.isNone)) w := by
    unfold binOp
    simp only [Sem.run_bind, e, Result.andThen, Sem.run_pure]
  simp [execOp, hx, hy, go_sem, hb]
set_option maxHeartbeats 1000000 in
theorem head_any (t : Tr) (H : List Rw) (ks : List Ky) (S : List Nat) (q : Nat) (A : Nat → Prop) (i : Nat) (w : World) (T : Tre t H ks S q A w) (hi : i ≤ 100000) (hH : H.length ≤ 1000) :
    Calls Try.prog 23 #[.pointer (some ⟨t.g, 0, none⟩), .int .i64 (i : Int)] w (fun e w' => e = .returned (.slice (rw H i).a (rw H i).n (rw H i).cap) ∧ Below w.heap.size w w') := by
  have z := T.z
  have x0 := z.cell 0 rfl
  have xl := z.lt
  by_cases hlt : i < H.length
  · have hle := owns_le T.hh
    have hmx : t.ch ≤ 9223372036854775807 := owns_max T.hh
    have cs := owns_cs T.hh
    obtain ⟨b, o, hb⟩ := cs.addr (by rw [rwcells_length]; omega)
    rw [hb] at cs x0
    have y0 : w.cell? ⟨b, o + i, none⟩ = some (.slice (rw H i).a (rw H i).n (rw H i).cap) := cs.at (by rw [rw_in hlt]; simp [rwcells, hlt, Rw.sl])
    generalize rw H i = r at y0 ⊢
    generalize hn : H.length = n at *
    clear z T hn cs hb
    go_enter Try.func23, Try.ntmps23
    go_wp2_with (first | (at_make; refine Stop.un ?_) | (at_builtin; refine Stop.un ?_))
    go_ret
    exact ⟨rfl, Below.refl _ _⟩
  · rw [rw_big (by omega)]
    have hle := owns_le T.hh
    have hmx : t.ch ≤ 9223372036854775807 := owns_max T.hh
    generalize hn : H.length = n at *
    clear z T hn
    go_enter Try.func23, Try.ntmps23
    go_wp2_with (first | (at_make; refine Stop.un ?_) | (at_builtin; refine Stop.un ?_))
    go_ret
    exact ⟨rfl, Below.refl _ _⟩
end Go.Proofs.Ytfhlbiddhgkcpaa
