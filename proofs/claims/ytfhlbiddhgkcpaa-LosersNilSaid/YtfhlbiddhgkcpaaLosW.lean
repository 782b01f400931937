/- A new tree. -/
import Derived.Test.YtfhlbiddhgkcpaaLosU
import Derived.Test.YtfhlbiddhgkcpaaODeep
set_option linter.unusedVariables false
set_option linter.unusedSimpArgs false
namespace Go.Proofs.Ytfhlbiddhgkcpaa
open Go.RowKit
theorem exec_nilS {T E : TypeId} (hu : Try.prog.underlying T = some (.slice E)) {ρ : Operand → Value} {x y : Operand} {dst : Option Tmp} {T2 ty : TypeId} {pos : String} {af : Array Edge} {g : Option (Nat × Bool)} (ao : Option Addr) (n cap : Nat) (hx : ρ x = .slice ao n cap) (hy : ρ y = .slice none 0 0) (w : World) :
    (execOp ρ ⟨dst, .binOp .eql T x y T2, ty, pos, af, g⟩).run Try.prog w = .ok (.value (.bool ao.isNone)) w := by
  have e := run_equal_slice_nil (P := Try.prog) w T E ao n cap hu
  have hb : (binOp .eql T (.slice ao n cap) (.slice none 0 0)).run Try.prog w = .ok (.bool ao.isNone) w := by
    unfold binOp
    simp only [Sem.run_bind, e, Result.andThen, Sem.run_pure]
  simp [execOp, hx, hy, go_sem, hb]
theorem Try.infoKy : (Try.prog.info? 51).map (fun i => (i.zero, i.size, i.bytes)) = some (some (.agg #[.int .i64 0, .bool false]), 2, 16) := by kernel_rfl
theorem kcells_one : ∀ (l : List Ky), ∀ u ∈ kcells l, u.oneCell' = true
  | [], u, hu => by cases hu
  | k :: l, u, hu => by
    simp only [kcells, List.mem_cons] at hu
    rcases hu with rfl | rfl | hu
    · rfl
    · rfl
    · exact kcells_one l u hu
set_option maxHeartbeats 1000000 in
theorem kclone_any (ak : Option Addr) (p ck : Nat) (ks : List Ky) (w : World) (hk : Cs w ak (kcells ks)) (hp : ks.length = p) (hlp : p ≤ ck) (hcm : ck ≤ maxLen) (hp2 : p ≤ 1000000) :
    Calls Try.prog 20 #[.slice ak p ck] w (fun e w' => ∃ a c, e = .returned (.slice a p c) ∧ Own w w' 51 2 (.slice a p c) p (kcells ks)) := by
  unfold maxLen at hcm
  have HP := Lib.hid hp
  cases ak with
  | none =>
    have h0 : ks = [] := by
      have := cs_none hk
      cases ks with
      | nil => rfl
      | cons k l => simp [kcells] at this
    subst h0
    obtain rfl : p = 0 := by simpa using hp.symm
    clear hk hp
    go_enter Try.func20, Try.ntmps20
    go_wp2_with (first | (at_make; refine Stop.un ?_) | (at_builtin; refine Stop.un ?_) | (with_reducible refine Stop.eql 23 ?_) | (with_reducible refine Stop.eql 40 ?_))
    refine Stop.mk (wpList_as _ rfl (exec_nilS Try.underlying23 _ _ _ rfl rfl _) ?_)
    go_wp2_with (first | (at_make; refine Stop.un ?_) | (at_builtin; refine Stop.un ?_))
    go_ret
    exact ⟨none, 0, rfl, Own.nil _ _ (Below.refl _ _)⟩
  | some ad =>
    clear hp
    go_enter Try.func20, Try.ntmps20
    go_wp2_with (first | (at_make; refine Stop.un ?_) | (at_builtin; refine Stop.un ?_) | (with_reducible refine Stop.eql 23 ?_) | (with_reducible refine Stop.eql 40 ?_))
    refine Stop.mk (wpList_as _ rfl (exec_nilS Try.underlying23 _ _ _ rfl rfl _) ?_)
    go_wp2_with (first | (at_make; refine Stop.un ?_) | (at_builtin; refine Stop.un ?_))
    have hO : Own w (w.alloc (.cells #[] 51)) 51 2 (.slice (some ⟨w.heap.size, 0, none⟩) 0 0) 0 [] := Own.block (Below.refl _ _) rfl (by decide)
    refine Stop.mk (wpList_append_Own w 51 (.agg #[.int .i64 0, .bool false]) 2 16 Try.infoKy rfl (by decide) _ _ 23 23 Try.underlying23 rfl rfl _ 0 [] hO rfl _ p (kcells ks) rfl
      (Src.ofCs Try.underlying23 (hk.alloc _) (by rw [kcells_length, HP.out]) (kcells_one _)) (by omega) (by omega) (fun ao cap w' h1 h2 _ h4 => ?_))
    simp only [Nat.zero_add, List.nil_append] at h1 ⊢
    clear hO
    go_wp2_with (first | (at_make; refine Stop.un ?_) | (at_builtin; refine Stop.un ?_))
    go_ret
    exact ⟨_, _, by first | rfl | simp, h1⟩
theorem gd_set {t : Tr} {H : List Rw} {ks : List Ky} {q : Nat} {A : Nat → Prop} {w : World} {h : Nat} {S : List Nat} {v : Nat} (T : Tre t H ks S q A w) (len : S.length = 2 ^ h) (hl : H.length ≤ 2 ^ h) (h4 : h ≤ 4) (hw : Won ks (hds H) S (2 ^ h) h 1 v) :
    Gd t H ks q A (w.setCell ⟨t.gs, 0, none⟩ (.int .i64 (v : Int))) h (S.set 0 v) v := by
  have hp : 0 < 2 ^ h := Nat.pow_pos (by omega)
  have hb := won_bound hw
  refine ⟨T.slot 0 v, by rw [List.length_set]; exact len, hl, h4, List.getElem?_set_self (by omega), by omega, ?_⟩
  refine won_mono _ _ _ hw (fun x j hx hj => ?_) (fun _ _ => rfl)
  rw [List.getElem?_set_ne]
  intro e0
  rw [← e0, Nat.zero_div] at hj
  omega
/-- The heads so far: block g is the tree's. -/
structure Nw (w0 w : World) (g : Nat) (ah : Option Addr) (j ch : Nat) (H : List Rw) (a : Option Addr) (p c : Nat) (ks : List Ky) : Prop where
  z : At w g #[.slice ah j ch, .slice a p c, .slice none 0 0, .int .i64 0] 54
  O : OwnRs w0 w (.slice ah j ch) j H
  ge : w0.heap.size ≤ g
  ga : ∀ k, (Value.slice ah j ch).ownBlock = some k → k ≠ g ∧ ∀ x, a = some x → x.block ≠ k
  kc : Cs w a (kcells ks)
  ka : ∀ x, a = some x → w0.heap.size ≤ x.block ∧ x.block ≠ g ∧ x.block < w.heap.size
  rows : ∀ r ∈ H, RowOk w r ∧ ∀ x, r.a = some x → w0.heap.size ≤ x.block ∧ x.block < w.heap.size ∧ x.block ≠ g ∧ (Value.slice ah j ch).ownBlock ≠ some x.block
theorem Nw.below {w0 w x : World} {g : Nat} {ah : Option Addr} {j ch : Nat} {H : List Rw} {a : Option Addr} {p c : Nat} {ks : List Ky} (N : Nw w0 w g ah j ch H a p c ks) (b : Below w.heap.size w x) : Nw w0 x g ah j ch H a p c ks :=
  ⟨N.z.mono b, Own.keep N.O b, N.ge, N.ga, N.kc.mono b (Nat.le_refl _), fun y hy => ⟨(N.ka y hy).1, (N.ka y hy).2.1, Nat.lt_of_lt_of_le (N.ka y hy).2.2 b.size⟩, fun r hr => ⟨(N.rows r hr).1.mono b, fun y hy => ⟨((N.rows r hr).2 y hy).1, Nat.lt_of_lt_of_le ((N.rows r hr).2 y hy).2.1 b.size, ((N.rows r hr).2 y hy).2.2⟩⟩⟩
/-- The heads have grown by a row. -/
theorem Nw.grown {w0 w x : World} {g : Nat} {ah : Option Addr} {j ch : Nat} {H : List Rw} {a : Option Addr} {p c : Nat} {ks : List Ky} (N : Nw w0 w g ah j ch H a p c ks) {r : Rw} (ro : RowOk w r) (rb : ∀ y, r.a = some y → w0.heap.size ≤ y.block ∧ y.block < w.heap.size ∧ y.block ≠ g ∧ (Value.slice ah j ch).ownBlock ≠ some y.block)
    {ah' : Option Addr} {ch' : Nat} (O : OwnRs w0 x (.slice ah' (j + 1) ch') (j + 1) (H ++ [r])) (gr : w.grownBy x (Value.slice ah j ch).ownBlock) (gk : ∀ k, (Value.slice ah' (j + 1) ch').ownBlock = some k → (Value.slice ah j ch).ownBlock = some k ∨ w.heap.size ≤ k) :
    Nw w0 (x.setCell ⟨g, 0, none⟩ (.slice ah' (j + 1) ch')) g ah' (j + 1) ch' (H ++ [r]) a p c ks := by
  have gl := N.z.lt
  have zx : At x g #[.slice ah j ch, .slice a p c, .slice none 0 0, .int .i64 0] 54 := (gr.block g gl (fun e => (N.ga g e.symm).1 rfl)).trans N.z
  have o : Oth (fun k => k = g) x (x.setCell ⟨g, 0, none⟩ (.slice ah' (j + 1) ch')) := (Oth.refl _ x).set _ _ (.inl rfl)
  have gk2 : ∀ k, (Value.slice ah' (j + 1) ch').ownBlock = some k → k ≠ g ∧ ∀ y, a = some y → y.block ≠ k := fun k hk => by
    rcases gk k hk with h1 | h1
    · exact N.ga k h1
    · exact ⟨by omega, fun y hy => by have := (N.ka y hy).2.2; omega⟩
  refine ⟨zx.set 0 _, ⟨o.owns O.1 (fun k hk => (gk2 k hk).1), O.2.setCell (p := ⟨g, 0, none⟩) N.ge _⟩, N.ge, gk2, ?_, fun y hy => ⟨(N.ka y hy).1, (N.ka y hy).2.1, Nat.lt_of_lt_of_le (N.ka y hy).2.2 (Nat.le_trans gr.size o.size)⟩, fun q hq => ?_⟩
  · exact o.cs (N.kc.grown gr (fun y hy => ⟨(N.ka y hy).2.2, fun e => (N.ga _ e).2 y hy rfl⟩)) (fun _ y hy => (N.ka y hy).2.1)
  · have hq2 : RowOk w q ∧ ∀ y, q.a = some y → w0.heap.size ≤ y.block ∧ y.block < w.heap.size ∧ y.block ≠ g ∧ (Value.slice ah j ch).ownBlock ≠ some y.block := by
      rcases List.mem_append.1 hq with h1 | h1
      · exact N.rows q h1
      · rw [List.mem_singleton.1 h1]; exact ⟨ro, rb⟩
    obtain ⟨o1, b1⟩ := hq2
    have ox : RowOk x q := ⟨o1.cs.grown gr (fun y hy => ⟨(b1 y hy).2.1, (b1 y hy).2.2.2⟩), o1.len, o1.le, o1.max, o1.kind⟩
    refine ⟨o.row ox (fun y hy => (b1 y hy).2.2.1), fun y hy => ⟨(b1 y hy).1, Nat.lt_of_lt_of_le (b1 y hy).2.1 (Nat.le_trans gr.size o.size), (b1 y hy).2.2.1, fun e => ?_⟩⟩
    rcases gk _ e with h1 | h1
    · exact (b1 y hy).2.2.2 h1
    · have := (b1 y hy).2.1; omega
end Go.Proofs.Ytfhlbiddhgkcpaa
