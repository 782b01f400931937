/- Plain laws on memory that all walks of this seat share: a slice that reads as a list of cells; append from whatever source onto a slice of the call's own. No program stands in it. -/
import Derived.WalkKit
import Derived.WalkSpells
import Derived.Deep.AppendSrc
import Derived.Lib.Hide
import Derived.Laws.IdiomStrings
set_option linter.unusedVariables false
set_option linter.unusedSimpArgs false
set_option maxRecDepth 10000
namespace Go.Proofs.Ytbiniecjenencaa
open Go.RowKit

/-- The cells xs lie at ao. -/
def Cs (w : World) (ao : Option Addr) (xs : List Value) : Prop :=
  ∀ j u, xs[j]? = some u → ∃ b o, ao = some ⟨b, o, none⟩ ∧ w.cell? ⟨b, o + j, none⟩ = some u

theorem Cs.nil (w : World) (ao : Option Addr) : Cs w ao [] := by
  intro j u h; simp at h

theorem Cs.mono {w w' : World} {B : Nat} {ao : Option Addr} {xs : List Value} (h : Cs w ao xs) (hb : Below B w w') (hB : w.heap.size ≤ B) : Cs w' ao xs := by
  intro j u hj
  obtain ⟨b, o, e, hc⟩ := h j u hj
  refine ⟨b, o, e, ?_⟩
  rw [hb.cell (p := ⟨b, o + j, none⟩) (by have := World.block_lt_of_cell? _ _ hc; simp at this ⊢; omega)]
  exact hc

theorem Cs.alloc {w : World} {ao : Option Addr} {xs : List Value} (h : Cs w ao xs) (o : Obj) : Cs (w.alloc o) ao xs :=
  h.mono ((Below.refl w.heap.size w).alloc (Nat.le_refl _) o) (Nat.le_refl _)

theorem Cs.drew {w : World} {ao : Option Addr} {xs : List Value} (h : Cs w ao xs) : Cs w.drew ao xs := h

theorem Cs.take {w : World} {ao : Option Addr} {xs : List Value} (h : Cs w ao xs) (n : Nat) : Cs w ao (xs.take n) := by
  intro j u hj
  rw [List.getElem?_take] at hj
  split at hj
  · exact h j u hj
  · cases hj

theorem Cs.at {w : World} {b o : Nat} {xs : List Value} (h : Cs w (some ⟨b, o, none⟩) xs) {j : Nat} {u : Value} (hj : xs[j]? = some u) : w.cell? ⟨b, o + j, none⟩ = some u := by
  obtain ⟨b', o', e, hc⟩ := h j u hj
  simp at e
  obtain ⟨rfl, rfl⟩ := e
  exact hc

theorem Cs.addr {w : World} {ao : Option Addr} {xs : List Value} (h : Cs w ao xs) (hn : 0 < xs.length) : ∃ b o, ao = some ⟨b, o, none⟩ := by
  obtain ⟨b, o, e, _⟩ := h 0 xs[0] (by simp [hn])
  exact ⟨b, o, e⟩

theorem Cs.dropMap {w : World} {ao : Option Addr} {xs : List Value} (h : Cs w ao xs) (k : Nat) : Cs w (ao.map fun x => x.add k) (xs.drop k) := by
  intro j u hj
  rw [List.getElem?_drop] at hj
  obtain ⟨b, o, e, hc⟩ := h (k + j) u hj
  subst e
  exact ⟨b, o + k, by simp [Addr.add_lit], by rw [Nat.add_assoc]; exact hc⟩
theorem block_add (a : Addr) (k : Nat) : (a.add k).block = a.block := by unfold Addr.add; split <;> rfl
theorem firstCells_cs {P : Program} {w : World} {ao : Option Addr} {size n cap : Nat} {xs : List Value} (h : Cs w ao xs) (hl : xs.length = n * size) :
    (Builtin.firstCells size n (.slice ao n cap)).run P w = .ok xs.toArray w := by
  cases ao with
  | none =>
    have : xs = [] := by
      cases xs with
      | nil => rfl
      | cons x r => obtain ⟨b, o, e, _⟩ := h 0 x rfl; cases e
    subst this
    exact run_firstCells_none w size n n cap
  | some a =>
    refine run_firstCells_some w size n a n cap xs hl ?_
    intro j u hj
    obtain ⟨b, o, e, hc⟩ := h j u hj
    simp at e; subst e
    rw [Addr.add_lit]; exact hc

theorem Src.ofCs {P : Program} {w : World} {size : Nat} {tx e' : TypeId} (hk : P.underlying tx = some (.slice e')) {ao : Option Addr} {n cap : Nat} {xs : List Value} (h : Cs w ao xs) (hl : xs.length = n * size)
    (h1 : ∀ u ∈ xs, u.oneCell' = true) : Src P size tx (.slice ao n cap) n xs w :=
  ⟨.inl ⟨e', hk⟩, fun _ => rfl, firstCells_cs h hl, firstCells_cs (w := w.drew) h hl, hl, h1⟩

/-- What a slice of the call's own looks like. -/
theorem owns_shape {w : World} {base e size n : Nat} {v : Value} {xs : List Value} (h : w.ownsRow base e size v n xs) :
    ∃ ao cap, v = .slice ao n cap ∧ n ≤ cap ∧ Cs w ao xs ∧ (ao = none → n = 0 ∧ cap = 0) ∧ (∀ a, ao = some a → base ≤ a.block) := by
  have hx := h
  obtain ⟨hl, hc⟩ := h
  rcases hc with ⟨rfl, rfl⟩ | ⟨g, cap, cur, rfl, hg, hh, hn, _, hs, ht⟩
  · have : xs = [] := List.eq_nil_of_length_eq_zero (by simpa using hl)
    subst this
    exact ⟨none, 0, rfl, Nat.le_refl _, Cs.nil _ _, fun _ => ⟨rfl, rfl⟩, fun _ h => by cases h⟩
  · refine ⟨some ⟨g, 0, none⟩, cap, rfl, hn, ?_, fun h => (by cases h), fun a ha => (by cases ha; exact hg)⟩
    intro j u hj
    refine ⟨g, 0, rfl, ?_⟩
    have := hx.cells (g := g) rfl j u hj
    rwa [Addr.add_lit] at this

theorem owns_cs {w : World} {base e size n n' : Nat} {ao : Option Addr} {cap : Nat} {xs : List Value} (h : w.ownsRow base e size (.slice ao n' cap) n xs) : Cs w ao xs := by
  obtain ⟨ao', cap', e, _, hc, _⟩ := owns_shape h
  cases e; exact hc

theorem wpList_want {P : Program} {ops : Array Oper} {Q : Exit → Act → World → Prop} {a : Act} {w : World} {rest : List Oper} {o : Oper} (hg : Region.wanted o (yielded ops a.tmps) = true)
    (h : ∀ K : Act → World → Prop, (∀ a w, wpList P ops Q rest a w → K a w) → o.wp P a w K Q) : wpList P ops Q (o :: rest) a w :=
  wpList_step fun K hK => by rw [if_pos hg]; exact h K hK

theorem owns_le {w : World} {base e size n n' : Nat} {ao : Option Addr} {cap : Nat} {xs : List Value} (h : w.ownsRow base e size (.slice ao n' cap) n xs) : n' ≤ cap := by
  rcases h.2 with ⟨h', h0⟩ | ⟨g, cap', cur, h', _, _, hn, _⟩
  · simp only [Value.slice.injEq] at h'; omega
  · simp only [Value.slice.injEq] at h'; omega

section
variable {P : Program} (w : World)
theorem run_append_own_src (base : Nat) (t tx ty e : TypeId) (i : TypeInfo) (z : Value) (size bytes : Nat) (ht : P.underlying t = some (.slice e)) (hi : P.info? e = some i) (hz : i.zero = some z)
    (hsize : i.size = size) (hby : i.bytes = bytes) (hzs : z.cells.size = size) (hsz : 0 < size)
    (v : Value) (n : Nat) (xs : List Value) (hown : w.ownsRow base e size v n xs)
    (xv : Value) (m : Nat) (news : List Value) (hsrc : Src P size tx xv m news w)
    (h63 : n + m ≤ maxLen) (hbytes : (n + m) * bytes ≤ 140737488355328) (hbase : base ≤ w.heap.size) :
    ∃ v' w', (Builtin.append_ #[t, tx] ty #[v, xv]).run P w = .ok v' w' ∧ w'.ownsRow base e size v' (n + m) (xs ++ news) ∧ w.grownBy w' v.ownBlock ∧
      (v' = .slice none 0 0 ↔ v = .slice none 0 0 ∧ m = 0) ∧ (v'.ownBlock = v.ownBlock ∨ v'.ownBlock = some w.heap.size) := by
  subst hsize
  subst hby
  have hl := hsrc.newsLen
  have hsmall : ((n + m : Nat) : Int) ≤ 9223372036854775807 := by simp only [maxLen] at h63; omega
  have hlen : (xs ++ news).length = (n + m) * i.size := by rw [List.length_append, hown.1, hl, Nat.add_mul]
  have grown : ∀ (old : Nat), old < n + m → ∀ (row : Option Nat),
      (w.drew.alloc (.cells ((xs ++ news).toArray ++ Builtin.zeroCells z.cells (grownCap w (n + m) old e - (n + m))) e)).ownsRow base e i.size
        (.slice (some ⟨w.heap.size, 0, none⟩) (n + m) (grownCap w (n + m) old e)) (n + m) (xs ++ news) ∧
      w.grownBy (w.drew.alloc (.cells ((xs ++ news).toArray ++ Builtin.zeroCells z.cells (grownCap w (n + m) old e - (n + m))) e)) row := by
    intro old ho row
    have hge := grownCap_ge w (n + m) old e
    have hcm : grownCap w (n + m) old e ≤ maxLen := grownCap_le_maxLen w (n + m) old e h63
    refine ⟨⟨hlen, .inr ⟨w.heap.size, _, _, rfl, hbase, heap_alloc_new w.drew _, hge, hcm, ?_, ?_⟩⟩, ⟨rfl, rfl, rfl, by simp, fun k hk _ => Below.heap_alloc w.drew _ k hk⟩⟩
    · simp only [Array.size_append, List.size_toArray, size_zeroCells, hzs, hlen, ← Nat.add_mul]
      congr 1
      omega
    · simp only [Array.toList_append]
      rw [← hlen]
      exact List.take_left
  rcases hown.2 with ⟨rfl, rfl⟩ | ⟨g, cap, cur, rfl, hbg, hg, hnc, hcm, hcs, htake⟩
  · have hx : xs = [] := List.eq_nil_of_length_eq_zero (by simpa using hown.1)
    subst hx
    by_cases hm : m = 0
    · subst hm
      have hn : news = [] := List.eq_nil_of_length_eq_zero (by simpa using hl)
      subst hn
      refine ⟨.slice none 0 0, w, ?_, World.ownsRow_nil w base e i.size, ⟨rfl, rfl, rfl, Nat.le_refl _, fun _ _ _ => rfl⟩, by simp, .inl rfl⟩
      rcases hsrc.kind with ⟨e', hk⟩ | hk <;> simp [Builtin.append_, run_underlying ht, run_underlying hk, sizeOf, typeInfo, hi, hsrc.len, hsrc.cells]
    · have hr := run_append_grow_src (P := P) w t tx ty e i z ht hi hz none 0 0 [] (run_firstCells_none w.drew i.size 0 0 0) xv m news hsrc (by omega) (by simpa using hsmall) (growslice_fits (by omega) (by simpa using hbytes))
      have hgr := grown 0 (by omega) (Value.ownBlock (.slice none 0 0))
      simp only [Nat.zero_add, List.nil_append] at hgr hr ⊢
      exact ⟨_, _, hr, hgr.1, hgr.2, by simp [hm], .inr rfl⟩
  · have hci : Cs w (some ⟨g, 0, none⟩) xs := owns_cs hown
    by_cases hroom : n + m ≤ cap
    · have hcz : ∀ j, j < news.length → n * i.size + j < cur.size := by
        intro j hj
        have : (n + m) * i.size ≤ cap * i.size := Nat.mul_le_mul_right _ hroom
        rw [Nat.add_mul] at this
        omega
      have hfit : n * i.size + news.length ≤ cur.size := by rw [hl, hcs, ← Nat.add_mul]; exact Nat.mul_le_mul_right _ hroom
      have hst := run_storeCells_at P g (n * i.size) e news 0 cur w hg (by simpa using hfit) hsrc.one
      simp only [Nat.add_zero] at hst
      have hr : (Builtin.append_ #[t, tx] ty #[.slice (some ⟨g, 0, none⟩) n cap, xv]).run P w = .ok (.slice (some ⟨g, 0, none⟩) (n + m) cap) (w.setRow g (cur.toList.take (n * i.size) ++ news ++ cur.toList.drop (n * i.size + news.length)).toArray) := by
        rcases hsrc.kind with ⟨e', hk⟩ | hk <;> simp [Builtin.append_, run_underlying ht, run_underlying hk, sizeOf, typeInfo, hi, hsrc.len, hroom, hsrc.cells, Addr.add_lit, hst]
      refine ⟨_, _, hr, ⟨hlen, .inr ⟨g, cap, _, rfl, hbg, setRow_heap w g cur _ e _ hg, hroom, hcm, ?_, ?_⟩⟩, ⟨rfl, rfl, rfl, by simp, fun k _ hk => setRow_other w g k _ (fun e => hk (by simp [Value.ownBlock, e]))⟩, by simp, .inl rfl⟩
      · simp only [List.size_toArray, List.length_append, List.length_take, List.length_drop, Array.length_toList]
        omega
      · rw [htake, ← hlen]
        exact List.take_left
    · have hold := firstCells_cs (P := P) (w := w.drew) (cap := cap) (size := i.size) (n := n) hci.drew hown.1
      have hr := run_append_grow_src (P := P) w t tx ty e i z ht hi hz (some ⟨g, 0, none⟩) n cap xs hold xv m news hsrc (by omega) hsmall (growslice_fits (by omega) hbytes)
      have hgr := grown cap (by omega) (Value.ownBlock (.slice (some ⟨g, 0, none⟩) n cap))
      exact ⟨_, _, hr, hgr.1, hgr.2, by simp, .inr rfl⟩

theorem wpList_append_src {ops : Array Oper} {rest : List Oper} {o : Oper} {a : Act} {Q : Exit → Act → World → Prop} (hgd : Region.wanted o (yielded ops a.tmps) = true) (s x : Operand) (t tx : TypeId)
    (ho : o.op = .call { callee := .builtin .append, args := #[s, x], argTypes := #[t, tx] })
    (base : Nat) (e : TypeId) (z : Value) (size bytes : Nat) (ht : P.underlying t = some (.slice e)) (hinfo : (P.info? e).map (fun i => (i.zero, i.size, i.bytes)) = some (some z, size, bytes))
    (hzs : z.cells.size = size) (hsz : 0 < size)
    (v : Value) (n : Nat) (xs : List Value) (hs : a.eval s = v) (hown : w.ownsRow base e size v n xs)
    (xv : Value) (m : Nat) (news : List Value) (hx : a.eval x = xv) (hsrc : Src P size tx xv m news w)
    (h63 : n + m ≤ maxLen) (hbytes : (n + m) * bytes ≤ 140737488355328) (hbase : base ≤ w.heap.size)
    (h : ∀ v' w', w'.ownsRow base e size v' (n + m) (xs ++ news) → w.grownBy w' v.ownBlock → (v' = .slice none 0 0 ↔ v = .slice none 0 0 ∧ m = 0) → (v'.ownBlock = v.ownBlock ∨ v'.ownBlock = some w.heap.size) → wpList P ops Q rest (a.put o.dst v') w') : wpList P ops Q (o :: rest) a w := by
  refine wpList_want hgd fun K hK => ?_
  obtain ⟨i, hi, hz, hsize, hby⟩ := info_parts hinfo
  obtain ⟨v', w', hr, h2, h3, h4, h5⟩ := run_append_own_src (P := P) w base t tx o.type e i z size bytes ht hi hz hsize hby hzs hsz v n xs hown xv m news hsrc h63 hbytes hbase
  unfold Oper.wp execOp
  simp only [ho, resolve, invoke, builtin, Sem.run_bind, Sem.run_pure, Result.andThen_ok, List.map_toArray, List.map_cons, List.map_nil, hs, hx, hr]
  exact hK _ _ (h v' w' h2 h3 h4 h5)
end

/-- The world behind an append or a make of the call's own. -/
theorem below_grown {B : Nat} {a w w' : World} {base e size n : Nat} {v : Value} {xs : List Value} (h : Below B a w) (hg : w.grownBy w' v.ownBlock) (hown : w.ownsRow base e size v n xs) (hb : B ≤ base) (hB : B ≤ w.heap.size) : Below B a w' :=
  h.grown hg hB (fun k hk => Nat.le_trans hb (hown.lt k hk).1)

theorem _root_.Go.RowKit.Below.next {w0 w1 w2 : World} (h : Below w0.heap.size w0 w1) (k : Below w1.heap.size w1 w2) : Below w0.heap.size w0 w2 := h.trans (k.mono h.size)
theorem owns_at {w : World} {base e size n n' : Nat} {ao : Option Addr} {cap : Nat} {xs : List Value} (h : w.ownsRow base e size (.slice ao n' cap) n xs) (hn : 0 < n) : n' = n ∧ ∃ g, ao = some ⟨g, 0, none⟩ ∧ base ≤ g ∧ g < w.heap.size := by
  rcases h.2 with ⟨h', h0⟩ | ⟨g, cap', cur, h', hb, hg, _⟩
  · omega
  · simp only [Value.slice.injEq] at h'
    obtain ⟨h1, h2, h3⟩ := h'
    exact ⟨h2, g, h1, hb, (Array.getElem?_eq_some_iff.1 hg).1⟩

theorem _root_.Go.World.ownsRow.mono_base {w : World} {base base' e size n : Nat} {v : Value} {xs : List Value} (h : w.ownsRow base e size v n xs) (hb : base' ≤ base) : w.ownsRow base' e size v n xs := by
  obtain ⟨h1, h2⟩ := h
  refine ⟨h1, ?_⟩
  rcases h2 with h2 | ⟨g, cap, cur, hv, hg, r⟩
  · exact .inl h2
  · exact .inr ⟨g, cap, cur, hv, Nat.le_trans hb hg, r⟩
/-- Cells of one kind of number, the call's own, whatever they hold. -/
def NumRow (k : IntKind) (w : World) (base e : Nat) (v : Value) (n : Nat) : Prop := ∃ cs, (∀ u ∈ cs, ∃ z, u = Value.int k z) ∧ w.ownsRow base e 1 v n cs
theorem NumRow.at {k : IntKind} {w : World} {base e n cap : Nat} {ao : Option Addr} (h : NumRow k w base e (.slice ao n cap) n) {i : Nat} (hi : i < n) :
    ∃ g z, ao = some ⟨g, 0, none⟩ ∧ base ≤ g ∧ w.cell? ⟨g, i, none⟩ = some (.int k z) ∧ w.frozen? ⟨g, i, none⟩ = false ∧ ∀ x, NumRow k (w.setCell ⟨g, i, none⟩ (.int k x)) base e (.slice ao n cap) n := by
  obtain ⟨cs, hcs, ho⟩ := h
  obtain ⟨_, g, rfl, hg, _⟩ := owns_at ho (by omega)
  have hl : cs.length = n := by have := ho.1; omega
  have hc := ho.cellAt i (by omega)
  obtain ⟨z, hz⟩ := hcs cs[i] (List.getElem_mem _)
  refine ⟨g, z, rfl, hg, by rw [hc, List.getElem?_eq_getElem (by omega), hz], ho.frozenAt i, fun x => ⟨cs.set i (.int k x), ?_, (ho.stored i _).1⟩⟩
  intro u hu
  rcases List.mem_or_eq_of_mem_set hu with h | h
  · exact hcs u h
  · exact ⟨x, h⟩

theorem NumRow.other {k : IntKind} {w : World} {base e n : Nat} {v : Value} (h : NumRow k w base e v n) {a : Addr} (ha : a.block < base) (u : Value) : NumRow k (w.setCell a u) base e v n := by
  obtain ⟨cs, hcs, ho⟩ := h
  exact ⟨cs, hcs, ownsRow_setCell_below ho ha u⟩

theorem _root_.Go.RowKit.Below.one {B : Nat} {a w w' : World} {g : Nat} (h : Below B a w) (hg : w.grownBy w' (some g)) (hge : B ≤ g) (hB : B ≤ a.heap.size) : Below B a w' :=
  h.grown hg (Nat.le_trans hB h.size) (fun k hk => by cases hk; exact hge)
/-- A goal at which the walk is to stand still. -/
def Stop (p : Prop) : Prop := p
theorem Stop.mk {p : Prop} (h : p) : Stop p := h
theorem Stop.un {p : Prop} (h : Stop p) : p := h

theorem Stop.conv {P : Program} {ops : Array Oper} {Q : Exit → Act → World → Prop} {rest : List Oper} {a : Act} {w : World} {dst : Option Tmp} {x : Operand} {ty : TypeId} {pos : String} {af : Array Edge} {g : Option (Nat × Bool)} (s d : TypeId)
    (h : Stop (wpList P ops Q (⟨dst, .convert s d x, ty, pos, af, g⟩ :: rest) a w)) : wpList P ops Q (⟨dst, .convert s d x, ty, pos, af, g⟩ :: rest) a w := h

/-- v, with n elements, is the call's own (the call began in w0), and nothing that was there when the call began has changed. -/
def Own (w0 w : World) (e size : Nat) (v : Value) (n : Nat) (xs : List Value) : Prop :=
  w.ownsRow w0.heap.size e size v n xs ∧ Below w0.heap.size w0 w

theorem Own.below {w0 w : World} {e size n : Nat} {v : Value} {xs : List Value} (h : Own w0 w e size v n xs) : Below w0.heap.size w0 w := h.2
theorem Own.le {w0 w : World} {e size n : Nat} {v : Value} {xs : List Value} (h : Own w0 w e size v n xs) : w0.heap.size ≤ w.heap.size := h.2.size
theorem Own.nil {w0 w : World} (e size : Nat) (h : Below w0.heap.size w0 w) : Own w0 w e size (.slice none 0 0) 0 [] := ⟨World.ownsRow_nil _ _ _ _, h⟩
theorem Own.alloc {w0 w : World} {e size n : Nat} {v : Value} {xs : List Value} (h : Own w0 w e size v n xs) (o : Obj) : Own w0 (w.alloc o) e size v n xs :=
  ⟨h.1.alloc o, h.2.alloc h.le o⟩
theorem Own.drew {w0 w : World} {e size n : Nat} {v : Value} {xs : List Value} (h : Own w0 w e size v n xs) : Own w0 w.drew e size v n xs := ⟨h.1, h.2.drew⟩
theorem Own.keep {w0 w w' : World} {e size n : Nat} {v : Value} {xs : List Value} (h : Own w0 w e size v n xs) (hb : Below w.heap.size w w') : Own w0 w' e size v n xs := by
  refine ⟨?_, h.2.trans (hb.mono h.le)⟩
  refine h.1.kept (row := none) ⟨hb.os, hb.tape, hb.output, hb.size, fun k hk _ => hb.block k hk⟩ ?_
  cases v.ownBlock <;> simp
theorem Own.up {w0 w1 w : World} {e size n : Nat} {v : Value} {xs : List Value} (h : Own w1 w e size v n xs) (hb : Below w0.heap.size w0 w1) : Own w0 w e size v n xs := by
  refine ⟨?_, hb.trans (h.2.mono hb.size)⟩
  obtain ⟨⟨h1, h2⟩, _⟩ := h
  refine ⟨h1, ?_⟩
  rcases h2 with h2 | ⟨g, cap, cur, hv, hg, r⟩
  · exact .inl h2
  · exact .inr ⟨g, cap, cur, hv, Nat.le_trans hb.size hg, r⟩
theorem Own.cs {w0 w : World} {e size n n' : Nat} {ao : Option Addr} {cap : Nat} {xs : List Value} (h : Own w0 w e size (.slice ao n' cap) n xs) : Cs w ao xs := owns_cs h.1
theorem Own.length {w0 w : World} {e size n : Nat} {v : Value} {xs : List Value} (h : Own w0 w e size v n xs) : xs.length = n * size := h.1.1
theorem Own.shape {w0 w : World} {e size n : Nat} {v : Value} {xs : List Value} (h : Own w0 w e size v n xs) : ∃ ao cap, v = .slice ao n cap := by
  obtain ⟨ao, cap, e, _⟩ := owns_shape h.1; exact ⟨ao, cap, e⟩
theorem Own.made {w0 w w' : World} {e size n : Nat} {v : Value} {xs : List Value} (h : w'.ownsRow w0.heap.size e size v n xs) (hg : w.grownBy w' none) (hb : Below w0.heap.size w0 w) : Own w0 w' e size v n xs :=
  ⟨h, hb.grown hg hb.size (fun _ h => by cases h)⟩
/-- A row of the call's own that is younger than the world w2 keeps its cells while an elder row is written. -/
theorem Own.cs_grown {w2 w w' : World} {e size n n' : Nat} {ao : Option Addr} {cap : Nat} {xs : List Value} {row : Option Nat} (h : Own w2 w e size (.slice ao n' cap) n xs) (hg : w.grownBy w' row) (hr : ∀ k, row = some k → k < w2.heap.size) : Cs w' ao xs := by
  have := h.1.kept hg (by
    cases hv : Value.ownBlock (.slice ao n' cap) with
    | none => exact .inl rfl
    | some k => refine .inr fun e => ?_; have a := (h.1.lt k hv).1; have b := hr k e.symm; omega)
  exact owns_cs this
theorem Own.lt {w0 w : World} {e size n : Nat} {v : Value} {xs : List Value} (h : Own w0 w e size v n xs) : ∀ k, v.ownBlock = some k → k < w.heap.size := fun k hk => (h.1.lt k hk).2
theorem Own.ge {w0 w : World} {e size n : Nat} {v : Value} {xs : List Value} (h : Own w0 w e size v n xs) : ∀ k, v.ownBlock = some k → w0.heap.size ≤ k := fun k hk => (h.1.lt k hk).1
/-- A new block that the walk itself has laid, of cells of one literal. -/
theorem Own.block {w0 w : World} {e size n : Nat} {cs : Array Value} (hb : Below w0.heap.size w0 w) (hs : cs.size = n * size) (hm : n ≤ maxLen) : Own w0 (w.alloc (.cells cs e)) e size (.slice (some ⟨w.heap.size, 0, none⟩) n n) n cs.toList :=
  ⟨⟨by rw [Array.length_toList]; exact hs, .inr ⟨w.heap.size, n, cs, rfl, hb.size, _root_.Go.heap_alloc_new w _, Nat.le_refl _, hm, hs, List.take_of_length_le (by rw [Array.length_toList]; omega)⟩⟩, hb.alloc hb.size _⟩

theorem wpList_append_Own {P : Program} {w : World} {ops : Array Oper} {rest : List Oper} {o : Oper} {a : Act} {Q : Exit → Act → World → Prop} (w0 : World) (e : TypeId) (z : Value) (size bytes : Nat)
    (hinfo : (P.info? e).map (fun i => (i.zero, i.size, i.bytes)) = some (some z, size, bytes)) (hzs : z.cells.size = size) (hsz : 0 < size)
    (s x : Operand) (t tx : TypeId) (ht : P.underlying t = some (.slice e))
    (hgd : Region.wanted o (yielded ops a.tmps) = true) (ho : o.op = .call { callee := .builtin .append, args := #[s, x], argTypes := #[t, tx] })
    (v : Value) (n : Nat) (xs : List Value) (hown : Own w0 w e size v n xs) (hs : a.eval s = v)
    (xv : Value) (m : Nat) (news : List Value) (hx : a.eval x = xv) (hsrc : Src P size tx xv m news w)
    (hbytes : (n + m) * bytes ≤ 140737488355328) (hb1 : 1 ≤ bytes)
    (h : ∀ ao cap w', Own w0 w' e size (.slice ao (n + m) cap) (n + m) (xs ++ news) → w.grownBy w' v.ownBlock → (ao = none ↔ v = .slice none 0 0 ∧ m = 0) → (∀ k, (Value.slice ao (n + m) cap).ownBlock = some k → v.ownBlock = some k ∨ w.heap.size ≤ k) → wpList P ops Q rest (a.put o.dst (.slice ao (n + m) cap)) w') : wpList P ops Q (o :: rest) a w := by
  refine wpList_append_src w hgd s x t tx ho w0.heap.size e z size bytes ht hinfo hzs hsz v n xs hs hown.1 xv m news hx hsrc ?_ hbytes hown.le ?_
  · have : n + m ≤ (n + m) * bytes := Nat.le_mul_of_pos_right _ hb1
    simp only [maxLen]; omega
  · intro v' w' h1 h2 h3 h4
    obtain ⟨ao, cap, rfl, hcap, _, hn, _⟩ := owns_shape h1
    refine h ao cap w' ⟨h1, below_grown hown.2 h2 hown.1 (Nat.le_refl _) hown.le⟩ h2 ?_ (fun k hk => ?_)
    · rw [← h3]
      constructor
      · intro e0; obtain ⟨e1, e2⟩ := hn e0; simp [e0, e1, e2]
      · intro e0; exact (Value.slice.inj e0).1
    · rcases h4 with h4 | h4 <;> rw [h4] at hk
      · exact .inl hk
      · exact .inr (Nat.le_of_eq (Option.some.inj hk))

/-- Two slices do not lie in one block. -/
def Apart (u v : Value) : Prop := ∀ k, u.ownBlock = some k → v.ownBlock ≠ some k
theorem Apart.symm {u v : Value} (h : Apart u v) : Apart v u := fun k hk e => h k e hk
theorem Apart.nil (v : Value) : Apart v (.slice none 0 0) := fun k _ e => by cases e
/-- A slice of the call's own is kept where another one grows. -/
theorem Own.beside {w0 w w' : World} {e size n : Nat} {u v : Value} {xs : List Value} (h : Own w0 w e size u n xs) (hg : w.grownBy w' v.ownBlock) (hap : Apart u v) (hb : Below w0.heap.size w0 w') : Own w0 w' e size u n xs :=
  ⟨h.1.kept hg (by
    cases hk : u.ownBlock with
    | none => exact .inl rfl
    | some k => exact .inr fun e => hap k hk e.symm), hb⟩
theorem Own.apart {w0 w : World} {e size n : Nat} {u v v' : Value} {xs : List Value} (h : Own w0 w e size u n xs) (hap : Apart u v) (hn : ∀ k, v'.ownBlock = some k → v.ownBlock = some k ∨ w.heap.size ≤ k) : Apart u v' := fun k hk e => by
  rcases hn k e with h1 | h1
  · exact hap k hk h1
  · have := h.lt k hk; omega

/-- Bytes as cells. -/
def bcells (l : List UInt8) : List Value := l.map fun b => Value.int .u8 b.toNat
theorem bcells_length (l : List UInt8) : (bcells l).length = l.length := by simp [bcells]
theorem bcells_append (a b : List UInt8) : bcells (a ++ b) = bcells a ++ bcells b := by simp [bcells]
theorem bcells_one (l : List UInt8) : ∀ u ∈ bcells l, u.oneCell' = true := by
  intro u hu; obtain ⟨_, _, rfl⟩ := List.mem_map.1 hu; rfl
theorem bcells_int (n : Int) (h0 : 0 ≤ n) (h1 : n < 256) : bcells [UInt8.ofNat n.toNat] = [Value.int .u8 n] := by
  simp [bcells, Nat.mod_eq_of_lt (show n.toNat < 256 by omega), Int.toNat_of_nonneg h0]
theorem bcells_get (l : List UInt8) (j : Nat) (h : j < l.length) : (bcells l)[j]? = some (.int .u8 (l[j].toNat : Int)) := by simp [bcells, h]
theorem cs_none {w : World} {xs : List Value} (h : Cs w none xs) : xs = [] := by
  cases xs with
  | nil => rfl
  | cons x r => obtain ⟨b, o, e, _⟩ := h 0 x rfl; cases e

/-- Bytes as a string. -/
def strOf (l : List UInt8) : ByteArray := ⟨l.toArray⟩
theorem strOf_toList (l : List UInt8) : (strOf l).data.toList = l := rfl
theorem strOf_toList' (l : List UInt8) : (strOf l).toList = l := by rw [ByteArray.toList_eq]; rfl
theorem strOf_size (l : List UInt8) : (strOf l).size = l.length := by simp [strOf, ByteArray.size]
theorem strOf_data (s : ByteArray) : strOf s.data.toList = s := by cases s; rfl

theorem strOf_extract (l : List UInt8) (k : Nat) : (strOf l).extract 0 k = strOf (l.take k) := by
  unfold strOf; rw [ByteArray.extract_mk]; simp
theorem strOf_inj {a b : List UInt8} : strOf a = strOf b ↔ a = b := ⟨fun h => by have := congrArg (fun s => s.data.toList) h; simpa [strOf] using this, fun h => by rw [h]⟩
theorem strOf_append (a b : List UInt8) : strOf a ++ strOf b = strOf (a ++ b) := by
  unfold strOf
  apply ByteArray.ext
  simp
theorem run_add_str {P : Program} (w : World) (a b : List UInt8) (h : a.length + b.length ≤ 9223372036854775807) : (Op.stringOp .add (strOf a) (strOf b)).run P w = .ok (.string (strOf (a ++ b))) w := by
  rw [run_string_add_sum w (strOf a) (strOf b) (by rw [strOf_size, strOf_size]; exact h), strOf_append]
theorem data_length (s : ByteArray) : s.data.toList.length = s.size := by rw [Array.length_toList]; rfl
theorem run_conv_cs {P : Program} {w : World} {src dst e : TypeId} (hs : P.underlying src = some (.slice e)) (he : P.underlying e = some (.int .u8)) (hd : P.underlying dst = some .string)
    {ao : Option Addr} {n cap : Nat} {l : List UInt8} (hl : l.length = n) (hc : Cs w ao (bcells l)) : (convert src dst (.slice ao n cap)).run P w = .ok (.string (strOf l)) w := by
  rw [run_convert_bytes_string w src dst e ao n cap hs he hd]
  cases ao with
  | none =>
    have : bcells l = [] := cs_none hc
    have : l = [] := by simpa [bcells] using this
    subst this
    simp [Conv.bytesToString]; rfl
  | some a =>
    have hf := firstCells_cs (P := P) (size := 1) (n := n) (cap := cap) hc (by simp [bcells_length, hl])
    simp only [Builtin.firstCells, Nat.mul_one] at hf
    have e1 : bcells l = (l.map fun b => (b.toNat : Int)).map (Value.int .u8) := by simp [bcells]
    rw [e1] at hf
    rw [run_bytesToString w a n cap _ hf]
    congr 2
    have : ∀ (l : List UInt8) (s : ByteArray), (l.map fun b => (b.toNat : Int)).foldl (fun r n => r.push (UInt8.ofNat n.toNat)) s = ⟨s.data ++ l.toArray⟩ := by
      intro l
      induction l with
      | nil => intro s; simp
      | cons b l ih => intro s; simp only [List.map_cons, List.foldl_cons]; rw [ih]; simp [ByteArray.push]
    rw [this]
    simp [strOf, ByteArray.empty, ByteArray.emptyWithCapacity]
    rfl

theorem wpList_tobytes {P : Program} {ops : Array Oper} {rest : List Oper} {o : Oper} {a : Act} {w : World} {Q : Exit → Act → World → Prop} {src dst e : TypeId} (hs : P.underlying src = some .string) (hd : P.underlying dst = some (.slice e)) (he : P.underlying e = some (.int .u8))
    (x : Operand) (hgd : Region.wanted o (yielded ops a.tmps) = true) (ho : o.op = .convert src dst x) {s : ByteArray} (hx : a.eval x = .string s)
    (h : ∀ ao cap w', Cs w' ao (bcells s.data.toList) → Below w.heap.size w w' → wpList P ops Q rest (a.put o.dst (.slice ao s.size cap)) w') : wpList P ops Q (o :: rest) a w := by
  refine wpList_want hgd fun K hK => ?_
  unfold Oper.wp
  simp [execOp, ho, hx, run_bytes_of_string w src dst e s hs hd he, Result.andThen]
  refine hK _ _ (h _ _ _ ?_ ((Below.refl _ _).drew.alloc (Nat.le_refl _) _))
  intro j u hj
  refine ⟨w.heap.size, 0, rfl, ?_⟩
  have hlt : j < s.data.toList.length := by
    have := (List.getElem?_eq_some_iff.1 hj).1; simpa [bcells] using this
  have hg := grownCap_ge w s.size 0 e
  simp only [World.cell?]
  rw [show (World.alloc w.drew (Obj.cells (bytesRow s (grownCap w s.size 0 e)) e ((bytesRow s (grownCap w s.size 0 e)).size, (bytesRow s (grownCap w s.size 0 e)).size + 1))).heap[w.heap.size]? = _ from _root_.Go.heap_alloc_new w.drew _]
  have hl2 : j < s.data.size := by rwa [Array.length_toList] at hlt
  show (if (none : Option Nat).isSome then none else (bytesRow s (grownCap w s.size 0 e))[0 + j]?) = some u
  rw [if_neg (by decide), Nat.zero_add, bytesRow_at s _ j hl2, ← hj, bcells_get _ j hlt, Array.getElem_toList]

theorem wpList_conv {P : Program} {ops : Array Oper} {rest : List Oper} {o : Oper} {a : Act} {w : World} {Q : Exit → Act → World → Prop} {src dst e : TypeId} (hs : P.underlying src = some (.slice e)) (he : P.underlying e = some (.int .u8)) (hd : P.underlying dst = some .string)
    (x : Operand) (hgd : Region.wanted o (yielded ops a.tmps) = true) (ho : o.op = .convert src dst x)
    {ao : Option Addr} {n cap : Nat} {l : List UInt8} (hx : a.eval x = .slice ao n cap) (hl : l.length = n) (hc : Cs w ao (bcells l))
    (h : wpList P ops Q rest (a.put o.dst (.string (strOf l))) w) : wpList P ops Q (o :: rest) a w := by
  refine wpList_want hgd fun K hK => ?_
  unfold Oper.wp
  simp [execOp, ho, hx, run_conv_cs hs he hd hl hc, Result.andThen]
  exact hK _ _ h
end Go.Proofs.Ytbiniecjenencaa
