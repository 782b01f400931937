/- A new tree. -/
import Derived.Test.YtfhlbiddhgkcpaaLosA
import Derived.Test.YtfhlbiddhgkcpaaODeep
import Derived.Test.YtfhlbiddhgkcpaaStb
import Derived.Test.YtfhlbiddhgkcpaaCutR
set_option linter.unusedVariables false
set_option linter.unusedSimpArgs false
namespace Go.Proofs.Ytfhlbiddhgkcpaa
open Go.RowKit
/-! A new tree. -/
theorem exec_nilS {T E : TypeId} (hu : Try.prog.underlying T = some (.slice E)) {ρ : Operand → Value} {x y : Operand} {dst : Option Tmp} {T2 ty : TypeId} {pos : String} {af : Array Edge} {g : Option (Nat × Bool)} (ao : Option Addr) (n cap : Nat) (hx : ρ x = .slice ao n cap) (hy : ρ y = .slice none 0 0) (w : World) :
    (execOp ρ ⟨dst, .binOp .eql T x y T2, ty, pos, af, g⟩).run Try.prog w = .ok (.value (.bool ao.isNone)) w := by
  have e := run_equal_slice_nil (P := Try.prog) w T E ao n cap hu
  have hb : (binOp .eql T (.slice ao n cap) (.slice none 0 0)).run Try.prog w = .ok (.bool ao.isNone) w := by
    unfold binOp
    simp only [Sem.run_bind, e, Result.andThen, Sem.run_pure]
  simp [execOp, hx, hy, go_sem, hb]
theorem Try.infoKy : (Try.prog.info? 51).map (fun i => (i.zero, i.size, i.bytes)) = some (some (.agg #[.int .i64 0, .bool false]), 2, 16) := by kernel_rfl
theorem kcells_one : ∀ (l : List Ky), ∀ u ∈ kcells l, u.oneCell' = true
  | [], u, hu => by cases hu
  | k :: l, u, hu => by
    simp only [kcells, List.mem_cons] at hu
    rcases hu with rfl | rfl | hu
    · rfl
    · rfl
    · exact kcells_one l u hu
set_option maxHeartbeats 1000000 in
theorem kclone_any (ak : Option Addr) (p ck : Nat) (ks : List Ky) (w : World) (hk : Cs w ak (kcells ks)) (hp : ks.length = p) (hlp : p ≤ ck) (hcm : ck ≤ maxLen) (hp2 : p ≤ 1000000) :
    Calls Try.prog 20 #[.slice ak p ck] w (fun e w' => ∃ a c, e = .returned (.slice a p c) ∧ Own w w' 51 2 (.slice a p c) p (kcells ks)) := by
  unfold maxLen at hcm
  have HP := Lib.hid hp
  cases ak with
  | none =>
    have h0 : ks = [] := by
      have := cs_none hk
      cases ks with
      | nil => rfl
      | cons k l => simp [kcells] at this
    subst h0
    obtain rfl : p = 0 := by simpa using hp.symm
    clear hk hp
    go_enter Try.func20, Try.ntmps20
    go_wp2_with (first | (at_make; refine Stop.un ?_) | (at_builtin; refine Stop.un ?_) | (with_reducible refine Stop.eql 23 ?_) | (with_reducible refine Stop.eql 40 ?_))
    refine Stop.mk (wpList_as _ rfl (exec_nilS Try.underlying23 _ _ _ rfl rfl _) ?_)
    go_wp2_with (first | (at_make; refine Stop.un ?_) | (at_builtin; refine Stop.un ?_))
    go_ret
    exact ⟨none, 0, rfl, Own.nil _ _ (Below.refl _ _)⟩
  | some ad =>
    clear hp
    go_enter Try.func20, Try.ntmps20
    go_wp2_with (first | (at_make; refine Stop.un ?_) | (at_builtin; refine Stop.un ?_) | (with_reducible refine Stop.eql 23 ?_) | (with_reducible refine Stop.eql 40 ?_))
    refine Stop.mk (wpList_as _ rfl (exec_nilS Try.underlying23 _ _ _ rfl rfl _) ?_)
    go_wp2_with (first | (at_make; refine Stop.un ?_) | (at_builtin; refine Stop.un ?_))
    have hO : Own w (w.alloc (.cells #[] 51)) 51 2 (.slice (some ⟨w.heap.size, 0, none⟩) 0 0) 0 [] := Own.block (Below.refl _ _) rfl (by decide)
    refine Stop.mk (wpList_append_Own w 51 (.agg #[.int .i64 0, .bool false]) 2 16 Try.infoKy rfl (by decide) _ _ 23 23 Try.underlying23 rfl rfl _ 0 [] hO rfl _ p (kcells ks) rfl
      (Src.ofCs Try.underlying23 (hk.alloc _) (by rw [kcells_length, HP.out]) (kcells_one _)) (by omega) (by omega) (fun ao cap w' h1 h2 _ h4 => ?_))
    simp only [Nat.zero_add, List.nil_append] at h1 ⊢
    clear hO
    go_wp2_with (first | (at_make; refine Stop.un ?_) | (at_builtin; refine Stop.un ?_))
    go_ret
    exact ⟨_, _, by first | rfl | simp, h1⟩
theorem gd_set {t : Tr} {H : List Rw} {ks : List Ky} {q : Nat} {A : Nat → Prop} {w : World} {h : Nat} {S : List Nat} {v : Nat} (T : Tre t H ks S q A w) (len : S.length = 2 ^ h) (hl : H.length ≤ 2 ^ h) (h4 : h ≤ 4) (hw : Won ks (hds H) S (2 ^ h) h 1 v) :
    Gd t H ks q A (w.setCell ⟨t.gs, 0, none⟩ (.int .i64 (v : Int))) h (S.set 0 v) v := by
  have hp : 0 < 2 ^ h := Nat.pow_pos (by omega)
  have hb := won_bound hw
  refine ⟨T.slot 0 v, by rw [List.length_set]; exact len, hl, h4, List.getElem?_set_self (by omega), by omega, ?_⟩
  refine won_mono _ _ _ hw (fun x j hx hj => ?_) (fun _ _ => rfl)
  rw [List.getElem?_set_ne]
  intro e0
  rw [← e0, Nat.zero_div] at hj
  omega
/-- The heads so far: block g is the tree's. -/
structure Nw (w0 w : World) (g : Nat) (ah : Option Addr) (j ch : Nat) (H : List Rw) (a : Option Addr) (p c : Nat) (ks : List Ky) : Prop where
  z : At w g #[.slice ah j ch, .slice a p c, .slice none 0 0, .int .i64 0] 54
  O : OwnRs w0 w (.slice ah j ch) j H
  ge : w0.heap.size ≤ g
  ga : ∀ k, (Value.slice ah j ch).ownBlock = some k → k ≠ g ∧ ∀ x, a = some x → x.block ≠ k
  kc : Cs w a (kcells ks)
  ka : ∀ x, a = some x → w0.heap.size ≤ x.block ∧ x.block ≠ g ∧ x.block < w.heap.size
  rows : ∀ r ∈ H, RowOk w r ∧ ∀ x, r.a = some x → w0.heap.size ≤ x.block ∧ x.block < w.heap.size ∧ x.block ≠ g ∧ (Value.slice ah j ch).ownBlock ≠ some x.block
theorem Nw.below {w0 w x : World} {g : Nat} {ah : Option Addr} {j ch : Nat} {H : List Rw} {a : Option Addr} {p c : Nat} {ks : List Ky} (N : Nw w0 w g ah j ch H a p c ks) (b : Below w.heap.size w x) : Nw w0 x g ah j ch H a p c ks :=
  ⟨N.z.mono b, Own.keep N.O b, N.ge, N.ga, N.kc.mono b (Nat.le_refl _), fun y hy => ⟨(N.ka y hy).1, (N.ka y hy).2.1, Nat.lt_of_lt_of_le (N.ka y hy).2.2 b.size⟩, fun r hr => ⟨(N.rows r hr).1.mono b, fun y hy => ⟨((N.rows r hr).2 y hy).1, Nat.lt_of_lt_of_le ((N.rows r hr).2 y hy).2.1 b.size, ((N.rows r hr).2 y hy).2.2⟩⟩⟩
/-- The heads have grown by a row. -/
theorem Nw.grown {w0 w x : World} {g : Nat} {ah : Option Addr} {j ch : Nat} {H : List Rw} {a : Option Addr} {p c : Nat} {ks : List Ky} (N : Nw w0 w g ah j ch H a p c ks) {r : Rw} (ro : RowOk w r) (rb : ∀ y, r.a = some y → w0.heap.size ≤ y.block ∧ y.block < w.heap.size ∧ y.block ≠ g ∧ (Value.slice ah j ch).ownBlock ≠ some y.block)
    {ah' : Option Addr} {ch' : Nat} (O : OwnRs w0 x (.slice ah' (j + 1) ch') (j + 1) (H ++ [r])) (gr : w.grownBy x (Value.slice ah j ch).ownBlock) (gk : ∀ k, (Value.slice ah' (j + 1) ch').ownBlock = some k → (Value.slice ah j ch).ownBlock = some k ∨ w.heap.size ≤ k) :
    Nw w0 (x.setCell ⟨g, 0, none⟩ (.slice ah' (j + 1) ch')) g ah' (j + 1) ch' (H ++ [r]) a p c ks := by
  have gl := N.z.lt
  have zx : At x g #[.slice ah j ch, .slice a p c, .slice none 0 0, .int .i64 0] 54 := (gr.block g gl (fun e => (N.ga g e.symm).1 rfl)).trans N.z
  have o : Oth (fun k => k = g) x (x.setCell ⟨g, 0, none⟩ (.slice ah' (j + 1) ch')) := (Oth.refl _ x).set _ _ (.inl rfl)
  have gk2 : ∀ k, (Value.slice ah' (j + 1) ch').ownBlock = some k → k ≠ g ∧ ∀ y, a = some y → y.block ≠ k := fun k hk => by
    rcases gk k hk with h1 | h1
    · exact N.ga k h1
    · exact ⟨by omega, fun y hy => by have := (N.ka y hy).2.2; omega⟩
  refine ⟨zx.set 0 _, ⟨o.owns O.1 (fun k hk => (gk2 k hk).1), O.2.setCell (p := ⟨g, 0, none⟩) N.ge _⟩, N.ge, gk2, ?_, fun y hy => ⟨(N.ka y hy).1, (N.ka y hy).2.1, Nat.lt_of_lt_of_le (N.ka y hy).2.2 (Nat.le_trans gr.size o.size)⟩, fun q hq => ?_⟩
  · exact o.cs (N.kc.grown gr (fun y hy => ⟨(N.ka y hy).2.2, fun e => (N.ga _ e).2 y hy rfl⟩)) (fun _ y hy => (N.ka y hy).2.1)
  · have hq2 : RowOk w q ∧ ∀ y, q.a = some y → w0.heap.size ≤ y.block ∧ y.block < w.heap.size ∧ y.block ≠ g ∧ (Value.slice ah j ch).ownBlock ≠ some y.block := by
      rcases List.mem_append.1 hq with h1 | h1
      · exact N.rows q h1
      · rw [List.mem_singleton.1 h1]; exact ⟨ro, rb⟩
    obtain ⟨o1, b1⟩ := hq2
    have ox : RowOk x q := ⟨o1.cs.grown gr (fun y hy => ⟨(b1 y hy).2.1, (b1 y hy).2.2.2⟩), o1.len, o1.le, o1.max, o1.kind⟩
    refine ⟨o.row ox (fun y hy => (b1 y hy).2.2.1), fun y hy => ⟨(b1 y hy).1, Nat.lt_of_lt_of_le (b1 y hy).2.1 (Nat.le_trans gr.size o.size), (b1 y hy).2.2.1, fun e => ?_⟩⟩
    rcases gk _ e with h1 | h1
    · exact (b1 y hy).2.2.2 h1
    · have := (b1 y hy).2.1; omega
/-! New: the tree of lists' first rows. -/
theorem Try.infoI64 : (Try.prog.info? 3).map (fun i => (i.zero, i.size, i.bytes)) = some (some (.int .i64 0), 1, 8) := by kernel_rfl
/-- One cell is kept. -/
def KC (p : Addr) (w x : World) : Prop := ∀ v, w.cell? p = some v → x.cell? p = some v
theorem Keeps.kc (p : Addr) : Keeps (KC p) := ⟨fun _ _ h => h, fun _ _ _ h k v hv => k v (h v hv)⟩
theorem mix_startK {P : Program} {id : Nat} {Q : Exit → Act → World → Prop} {a : Act} {w : World} {l : List Oper} (p : Addr) (n : Nat) (hn : l.length = n) (hm : P.follows .mixedOrders = true)
    (h : ∀ x, Below w.heap.size w x → wpAnyM P .any l.toArray (KC p) (fun a x => Q .normal a x) n (Array.replicate n false) x a) : (Code.region id l.toArray true).wp P Q a w :=
  mix_start (KC p) (Keeps.kc p) n hn hm (h w.drew (show Ext w w.drew from (Below.refl _ _).drew))
theorem new_long (ao : Option Addr) (n cap : Nat) (ak : Option Addr) (p ck : Nat) (w : World) (hn : 16 < n) (hnc : n ≤ cap) (hcap : cap ≤ maxLen) :
    Calls Try.prog 10 #[.slice ao n cap, .slice ak p ck] w (fun e w' => e = .returned (.tuple #[.pointer none, .int .i64 3]) ∧ Below w.heap.size w w') := by
  unfold maxLen at hcap
  go_enter Try.func10, Try.ntmps10
  go_wp2_with (first | (at_make; refine Stop.un ?_) | (at_builtin; refine Stop.un ?_))
  exact bodyPost_ret (v := .tuple #[.pointer none, .int .i64 3]) (by simp [results, Try.results10, go_sem]) rfl ⟨rfl, Below.refl _ _⟩
theorem Nw.tre {w0 w x : World} {g : Nat} {ah : Option Addr} {j ch : Nat} {H : List Rw} {a : Option Addr} {p c : Nat} {ks : List Ky} {S : List Nat} (N : Nw w0 w g ah j ch H a p c ks) (b : Below w.heap.size w x) (zs : At x w.heap.size (S.map (fun k : Nat => Value.int .i64 k)).toArray 3) (hp : ks.length = p) (hpc : p ≤ c) (hc : c ≤ maxLen) :
    Tre ⟨g, w.heap.size, ah, ch, a, p, c⟩ H ks S 0 (fun k => k < w0.heap.size) (x.setCell ⟨g, 2, none⟩ (.slice (some ⟨w.heap.size, 0, none⟩) S.length S.length)) ∧ ∀ k, Tr.mut ⟨g, w.heap.size, ah, ch, a, p, c⟩ k → w0.heap.size ≤ k := by
  have hw := Own.le N.O
  have hg := N.z.lt
  have hl : H.length = j := OwnRs.length N.O
  have Nx := N.below b
  have o : Oth (fun k => k = g) x (x.setCell ⟨g, 2, none⟩ (.slice (some ⟨w.heap.size, 0, none⟩) S.length S.length)) := (Oth.refl _ x).set _ _ (.inl rfl)
  have hm : ∀ k, Tr.mut ⟨g, w.heap.size, ah, ch, a, p, c⟩ k → k = g ∨ k = w.heap.size ∨ (Value.slice ah j ch).ownBlock = some k := fun k hk => by
    rcases hk with h1 | h1 | ⟨y, h1, h2⟩
    · exact .inl h1
    · exact .inr (.inl h1)
    · have h3 : ah = some y := h1
      exact .inr (.inr (by rw [h3]; simp [Value.ownBlock]; exact h2))
  have hge : ∀ k, Tr.mut ⟨g, w.heap.size, ah, ch, a, p, c⟩ k → w0.heap.size ≤ k := fun k hk => by
    rcases hm k hk with h1 | h1 | h1
    · rw [h1]; exact N.ge
    · omega
    · exact Own.ge N.O k h1
  refine ⟨⟨?_, o.at zs (show ¬ (w.heap.size = g) by omega), ?_, fun r hr => ⟨o.row (Nx.rows r hr).1 (fun y hy => ((Nx.rows r hr).2 y hy).2.2.1), fun y hy => ⟨Nat.lt_of_lt_of_le ((Nx.rows r hr).2 y hy).2.1 o.size, fun hk => ?_, fun hk => ?_⟩⟩, o.cs Nx.kc (fun _ y hy => (N.ka y hy).2.1), hp, hpc, hc, fun _ y hy => ⟨fun hk => ?_, fun hk => ?_⟩, ⟨by simp only; omega, fun y hy => ?_⟩, fun k hk => ?_, fun k hk => Nat.lt_of_lt_of_le hk (Nat.le_trans (Nat.le_trans hw b.size) o.size)⟩, hge⟩
  · have := Nx.z.set 2 (.slice (some ⟨w.heap.size, 0, none⟩) S.length S.length)
    rw [hl]
    exact this
  · rw [hl]
    have h1 := o.owns Nx.O.1 (fun k hk => (N.ga k hk).1)
    refine ⟨h1.1, ?_⟩
    rcases h1.2 with h2 | ⟨g', cap, cur, h2, h3, h4⟩
    · exact .inl h2
    · exact .inr ⟨g', cap, cur, h2, Nat.zero_le _, h4⟩
  · have h1 := (N.rows r hr).2 y hy
    rcases hm _ hk with h2 | h2 | h2
    · exact h1.2.2.1 h2
    · omega
    · exact h1.2.2.2 h2
  · have h1 := (N.rows r hr).2 y hy
    have : y.block < w0.heap.size := hk
    omega
  · have h1 := N.ka y hy
    rcases hm _ hk with h2 | h2 | h2
    · exact h1.2.1 h2
    · omega
    · exact (N.ga _ h2).2 y hy rfl
  · have h1 := N.ka y hy
    have : y.block < w0.heap.size := hk
    omega
  · have h3 : ah = some y := hy
    have h1 : (Value.slice ah j ch).ownBlock = some y.block := by rw [h3]; rfl
    have h2 := Own.lt N.O _ h1
    exact ⟨(N.ga _ h1).1, by simp only; omega⟩
  · have := hge k hk
    intro h2
    have : k < w0.heap.size := h2
    omega
set_option maxRecDepth 100000 in
set_option maxHeartbeats 8000000 in
theorem new_any (ao : Option Addr) (n cap : Nat) (rows : List Rw) (ak : Option Addr) (p ck : Nat) (ks : List Ky) (w : World) (t : Tab w ao rows) (hn : rows.length = n) (hnc : n ≤ cap) (hcap : cap ≤ maxLen) (hn2 : n ≤ 16) (hr : ∀ r ∈ rows, r.n ≤ 1000000)
    (hk : Cs w ak (kcells ks)) (hp : ks.length = p) (hlp : p ≤ ck) (hcm : ck ≤ maxLen) (hp2 : p ≤ 1000000) :
    Calls Try.prog 10 #[.slice ao n cap, .slice ak p ck] w (fun e w' => ∃ (tr : Tr) (H : List Rw) (q h : Nat) (S : List Nat) (v : Nat), e = .returned (.tuple #[.pointer (some ⟨tr.g, 0, none⟩), .int .i64 0]) ∧ Gd tr H ks q (fun k => k < w.heap.size) w' h S v ∧ hds H = hds rows ∧ q ≤ n - 1 ∧ (h = 0 ∨ 2 ^ (h - 1) < n) ∧ Below w.heap.size w w' ∧ (∀ k, tr.mut k → w.heap.size ≤ k) ∧ n ≤ 2 ^ h) := by
  unfold maxLen at hcap
  have HN := Lib.hid (And.intro hn (And.intro hr hp))
  have HKC := Lib.hid (kclone_any ak p ck ks w hk hp hlp hcm hp2)
  clear hn hr hp hk
  go_enter Try.func10, Try.ntmps10
  go_wp2_with (first | (at_make; refine Stop.un ?_) | (at_builtin; refine Stop.un ?_))
  refine HKC.out.mono ?_
  rintro e w1 ⟨a, c, rfl, OK⟩
  have N0 : Nw w (w1.alloc (.cells #[.slice none 0 0, .slice a p c, .slice none 0 0, .int .i64 0] 54)) w1.heap.size none 0 0 [] a p c ks := by
    refine ⟨At.new _ _ _, Own.nil _ _ ((Own.below OK).alloc (Own.le OK) _), Own.le OK, (fun k hk => by simp [Value.ownBlock] at hk), (Own.cs OK).alloc _, fun x hx => ?_, (fun r hr => by cases hr)⟩
    have h1 := Own.ge OK x.block (by rw [hx]; rfl)
    have h2 := Own.lt OK x.block (by rw [hx]; rfl)
    exact ⟨h1, by omega, by simp; omega⟩
  have hkc := owns_le OK.1
  have hkm := owns_max OK.1
  have HKM := Lib.hid (And.intro hkc hkm)
  clear OK HKC hkc hkm
  go_wp2_with (first | (at_make; refine Stop.un ?_) | (at_builtin; refine Stop.un ?_))
  generalize w1.alloc (.cells #[.slice none 0 0, .slice a p c, .slice none 0 0, .int .i64 0] 54) = w2 at N0 ⊢
  generalize w1.heap.size = g at N0 ⊢
  go_loopw [19] (fun i wr => ∃ (j : Nat) (ah : Option Addr) (ch : Nat) (H : List Rw), j ≤ n ∧ i = .int .i64 (j : Int) ∧ Nw w wr g ah j ch H a p c ks ∧ Hid (hds H = hds (rows.take j))) (fun i _ => n - (intOf i).toNat)
  case atStart => exact ⟨0, none, 0, [], Nat.zero_le _, rfl, N0, Lib.hid rfl⟩
  case round =>
    clear N0
    obtain ⟨j, ah, ch, H, hj, rfl, N, HH⟩ := hrel
    by_cases hlt : j < n
    · have hjl : j < rows.length := by have := HN.out.1; omega
      have t2 := t.mono (Own.below N.O)
      obtain ⟨b, o, rfl⟩ := t2.cs.addr (by rw [rwcells_length]; omega)
      have x0 := t2.at hjl
      have rk := t2.ok rows[j] (List.getElem_mem _)
      have hrn := HN.out.2.1 rows[j] (List.getElem_mem _)
      have HT : Hid (rows.take (j + 1) = rows.take j ++ [rows[j]]) := Lib.hid (List.take_succ_eq_append_getElem hjl)
      generalize rows[j] = r at x0 rk hrn HT
      have HO := Lib.hid (fun W ro => lown_any r W ro hrn)
      clear hjl t2 hrn
      go_upto_region 7 with fail
      clear x0
      refine mix_startN 12 rfl (by kernel_rfl) ?_
      intro xq hxq
      replace N := N.below hxq
      replace rk := rk.mono hxq
      clear hxq
      refine mix_quiet Keeps.any 0 rfl (by kernel_rfl) rfl ?_
      intro ι U hne hU
      go_big_quiet_op
      clear hU hne U ι
      show wpAnyM _ _ _ _ _ _ _ _ _
      refine mix_quiet Keeps.any 1 rfl (by kernel_rfl) rfl ?_
      intro ι U hne hU
      go_big_quiet_op
      clear hU hne U ι
      show wpAnyM _ _ _ _ _ _ _ _ _
      refine mix_quiet Keeps.any 2 rfl (by kernel_rfl) rfl ?_
      intro ι U hne hU
      go_big_quiet_op
      clear hU hne U ι
      show wpAnyM _ _ _ _ _ _ _ _ _
      refine mix_quiet Keeps.any 3 rfl (by kernel_rfl) rfl ?_
      intro ι U hne hU
      go_big_quiet_op
      clear hU hne U ι
      show wpAnyM _ _ _ _ _ _ _ _ _
      refine mix_quiet Keeps.any 5 rfl (by kernel_rfl) rfl ?_
      intro ι U hne hU
      go_big_quiet_op
      clear hU hne U ι
      show wpAnyM _ _ _ _ _ _ _ _ _
      refine mix_two 4 6 rfl rfl (by kernel_rfl) rfl rfl ?_ ?_
      ·
        have y0 := (N.z).cell 0 rfl
        have yl := (N.z).lt
        go_wp2_with (first | (at_make; refine Stop.un ?_) | (at_builtin; refine Stop.un ?_))
        refine MixPost.mk (True.intro : AnyW _ _) ?_
        clear y0 yl
        refine mix_any 6 rfl (by kernel_rfl) rfl ?_
        go_wp2_with (first | (at_make; refine Stop.un ?_) | (at_builtin; refine Stop.un ?_))
        refine (HO.out _ rk).mono ?_
        rintro e wo ⟨r', rfl, hd', ro', bo, rb', -, -⟩
        go_wp2_with (first | (at_make; refine Stop.un ?_) | (at_builtin; refine Stop.un ?_))
        refine MixPost.mk (True.intro : AnyW _ _) ?_
        have hl9 := Own.le N.O
        have hlO := Own.lt N.O
        have gl9 := N.z.lt
        replace N := N.below bo
        have HRB : Hid (∀ y, r'.a = some y → w.heap.size ≤ y.block ∧ y.block < wo.heap.size ∧ y.block ≠ g ∧ (Value.slice ah j ch).ownBlock ≠ some y.block) := Lib.hid (fun y hy => by
          have h1 := rb' y hy
          exact ⟨by omega, h1.2, by omega, fun e => by have := hlO _ e; omega⟩)
        have HHD := Lib.hid hd'
        clear hd' rb' rk bo HO hlO hl9 gl9
        refine mix_any 7 rfl (by kernel_rfl) rfl ?_
        go_wp2_with (first | (at_make; refine Stop.un ?_) | (at_builtin; refine Stop.un ?_))
        refine MixPost.mk (True.intro : AnyW _ _) ?_
        refine mix_any 8 rfl (by kernel_rfl) rfl ?_
        go_wp2_with (first | (at_make; refine Stop.un ?_) | (at_builtin; refine Stop.un ?_))
        refine Stop.mk (app_rw1 (r := r') w _ _ rfl rfl N.O rfl rfl (by omega) ?_)
        intro a9 c9 w9 O9 g9 k9
        go_wp2_with (first | (at_make; refine Stop.un ?_) | (at_builtin; refine Stop.un ?_))
        refine MixPost.mk (True.intro : AnyW _ _) ?_
        refine mix_quiet Keeps.any 9 rfl (by kernel_rfl) rfl ?_
        intro ι U hne hU
        go_big_quiet_op
        clear hU hne U ι
        show wpAnyM _ _ _ _ _ _ _ _ _
        refine mix_quiet Keeps.any 10 rfl (by kernel_rfl) rfl ?_
        intro ι U hne hU
        go_big_quiet_op
        clear hU hne U ι
        show wpAnyM _ _ _ _ _ _ _ _ _
        have N9 := N.grown ro' HRB.out O9 g9 k9
        have z9 : At w9 g #[.slice ah j ch, .slice a p c, .slice none 0 0, .int .i64 0] 54 := (g9.block g N.z.lt (fun e => (N.ga g e.symm).1 rfl)).trans N.z
        have f9 := z9.free 0
        have y9 := z9.cell 0 rfl
        have gl9 := z9.lt
        have HH2 : Hid (hds (H ++ [r']) = hds (rows.take (j + 1))) := Lib.hid (by
          have h1 := HH.out
          rw [HT.out]
          unfold hds at h1 ⊢
          rw [List.map_append, List.map_append, h1]
          simp [HHD.out])
        clear N O9 g9 k9 HRB HHD HT HH ro' z9
        refine mix_any 11 rfl (by kernel_rfl) rfl ?_
        go_wp2_with (first | (at_make; refine Stop.un ?_) | (at_builtin; refine Stop.un ?_))
        refine MixPost.mk (True.intro : AnyW _ _) ?_
        clear f9 y9 gl9
        refine mix_end (by kernel_rfl) ?_
        go_wp2_with (first | (at_make; refine Stop.un ?_) | (at_builtin; refine Stop.un ?_))
        go_roundw
        case rel => exact ⟨j + 1, a9, c9, _, by omega, by go_num, N9, HH2⟩
        case measure => simp [intOf]; omega
      ·
        go_wp2_with (first | (at_make; refine Stop.un ?_) | (at_builtin; refine Stop.un ?_))
        refine (HO.out _ rk).mono ?_
        rintro e wo ⟨r', rfl, hd', ro', bo, rb', -, -⟩
        go_wp2_with (first | (at_make; refine Stop.un ?_) | (at_builtin; refine Stop.un ?_))
        refine MixPost.mk (True.intro : AnyW _ _) ?_
        have hl9 := Own.le N.O
        have hlO := Own.lt N.O
        have gl9 := N.z.lt
        replace N := N.below bo
        have HRB : Hid (∀ y, r'.a = some y → w.heap.size ≤ y.block ∧ y.block < wo.heap.size ∧ y.block ≠ g ∧ (Value.slice ah j ch).ownBlock ≠ some y.block) := Lib.hid (fun y hy => by
          have h1 := rb' y hy
          exact ⟨by omega, h1.2, by omega, fun e => by have := hlO _ e; omega⟩)
        have HHD := Lib.hid hd'
        clear hd' rb' rk bo HO hlO hl9 gl9
        refine mix_two 4 7 rfl rfl (by kernel_rfl) rfl rfl ?_ ?_
        ·
          have y0 := (N.z).cell 0 rfl
          have yl := (N.z).lt
          go_wp2_with (first | (at_make; refine Stop.un ?_) | (at_builtin; refine Stop.un ?_))
          refine MixPost.mk (True.intro : AnyW _ _) ?_
          clear y0 yl
          refine mix_any 7 rfl (by kernel_rfl) rfl ?_
          go_wp2_with (first | (at_make; refine Stop.un ?_) | (at_builtin; refine Stop.un ?_))
          refine MixPost.mk (True.intro : AnyW _ _) ?_
          refine mix_any 8 rfl (by kernel_rfl) rfl ?_
          go_wp2_with (first | (at_make; refine Stop.un ?_) | (at_builtin; refine Stop.un ?_))
          refine Stop.mk (app_rw1 (r := r') w _ _ rfl rfl N.O rfl rfl (by omega) ?_)
          intro a9 c9 w9 O9 g9 k9
          go_wp2_with (first | (at_make; refine Stop.un ?_) | (at_builtin; refine Stop.un ?_))
          refine MixPost.mk (True.intro : AnyW _ _) ?_
          refine mix_quiet Keeps.any 9 rfl (by kernel_rfl) rfl ?_
          intro ι U hne hU
          go_big_quiet_op
          clear hU hne U ι
          show wpAnyM _ _ _ _ _ _ _ _ _
          refine mix_quiet Keeps.any 10 rfl (by kernel_rfl) rfl ?_
          intro ι U hne hU
          go_big_quiet_op
          clear hU hne U ι
          show wpAnyM _ _ _ _ _ _ _ _ _
          have N9 := N.grown ro' HRB.out O9 g9 k9
          have z9 : At w9 g #[.slice ah j ch, .slice a p c, .slice none 0 0, .int .i64 0] 54 := (g9.block g N.z.lt (fun e => (N.ga g e.symm).1 rfl)).trans N.z
          have f9 := z9.free 0
          have y9 := z9.cell 0 rfl
          have gl9 := z9.lt
          have HH2 : Hid (hds (H ++ [r']) = hds (rows.take (j + 1))) := Lib.hid (by
            have h1 := HH.out
            rw [HT.out]
            unfold hds at h1 ⊢
            rw [List.map_append, List.map_append, h1]
            simp [HHD.out])
          clear N O9 g9 k9 HRB HHD HT HH ro' z9
          refine mix_any 11 rfl (by kernel_rfl) rfl ?_
          go_wp2_with (first | (at_make; refine Stop.un ?_) | (at_builtin; refine Stop.un ?_))
          refine MixPost.mk (True.intro : AnyW _ _) ?_
          clear f9 y9 gl9
          refine mix_end (by kernel_rfl) ?_
          go_wp2_with (first | (at_make; refine Stop.un ?_) | (at_builtin; refine Stop.un ?_))
          go_roundw
          case rel => exact ⟨j + 1, a9, c9, _, by omega, by go_num, N9, HH2⟩
          case measure => simp [intOf]; omega
        ·
          go_wp2_with (first | (at_make; refine Stop.un ?_) | (at_builtin; refine Stop.un ?_))
          refine MixPost.mk (True.intro : AnyW _ _) ?_
          refine mix_any 4 rfl (by kernel_rfl) rfl ?_
          have y0 := (N.z.alloc (.cells #[.slice r'.a r'.n r'.cap] 26)).cell 0 rfl
          have yl := (N.z.alloc (.cells #[.slice r'.a r'.n r'.cap] 26)).lt
          go_wp2_with (first | (at_make; refine Stop.un ?_) | (at_builtin; refine Stop.un ?_))
          refine MixPost.mk (True.intro : AnyW _ _) ?_
          clear y0 yl
          refine mix_any 8 rfl (by kernel_rfl) rfl ?_
          go_wp2_with (first | (at_make; refine Stop.un ?_) | (at_builtin; refine Stop.un ?_))
          refine Stop.mk (app_rw1 (r := r') w _ _ rfl rfl N.O rfl rfl (by omega) ?_)
          intro a9 c9 w9 O9 g9 k9
          go_wp2_with (first | (at_make; refine Stop.un ?_) | (at_builtin; refine Stop.un ?_))
          refine MixPost.mk (True.intro : AnyW _ _) ?_
          refine mix_quiet Keeps.any 9 rfl (by kernel_rfl) rfl ?_
          intro ι U hne hU
          go_big_quiet_op
          clear hU hne U ι
          show wpAnyM _ _ _ _ _ _ _ _ _
          refine mix_quiet Keeps.any 10 rfl (by kernel_rfl) rfl ?_
          intro ι U hne hU
          go_big_quiet_op
          clear hU hne U ι
          show wpAnyM _ _ _ _ _ _ _ _ _
          have N9 := N.grown ro' HRB.out O9 g9 k9
          have z9 : At w9 g #[.slice ah j ch, .slice a p c, .slice none 0 0, .int .i64 0] 54 := (g9.block g N.z.lt (fun e => (N.ga g e.symm).1 rfl)).trans N.z
          have f9 := z9.free 0
          have y9 := z9.cell 0 rfl
          have gl9 := z9.lt
          have HH2 : Hid (hds (H ++ [r']) = hds (rows.take (j + 1))) := Lib.hid (by
            have h1 := HH.out
            rw [HT.out]
            unfold hds at h1 ⊢
            rw [List.map_append, List.map_append, h1]
            simp [HHD.out])
          clear N O9 g9 k9 HRB HHD HT HH ro' z9
          refine mix_any 11 rfl (by kernel_rfl) rfl ?_
          go_wp2_with (first | (at_make; refine Stop.un ?_) | (at_builtin; refine Stop.un ?_))
          refine MixPost.mk (True.intro : AnyW _ _) ?_
          clear f9 y9 gl9
          refine mix_end (by kernel_rfl) ?_
          go_wp2_with (first | (at_make; refine Stop.un ?_) | (at_builtin; refine Stop.un ?_))
          go_roundw
          case rel => exact ⟨j + 1, a9, c9, _, by omega, by go_num, N9, HH2⟩
          case measure => simp [intOf]; omega
    · obtain rfl : j = n := by omega
      have HH2 : Hid (hds H = hds rows) := Lib.hid (by rw [HH.out, List.take_of_length_le (by have := HN.out.1; omega)])
      have hHl : H.length = j := OwnRs.length N.O
      have HHL := Lib.hid hHl
      obtain ⟨wx, hwx⟩ : ∃ wx, wx = wr := ⟨_, rfl⟩
      subst hwx
      have NX := Lib.hid N
      have xl := N.z.lt
      clear HH hHl t hlt hj
      go_wp2_with (first | (at_make; refine Stop.un ?_) | (at_builtin; refine Stop.un ?_))
      go_loopw [9] (fun v wr => ∃ h : Nat, v = .int .i64 ((2 ^ h : Nat) : Int) ∧ h ≤ 4 ∧ wr = wx ∧ Hid (h = 0 ∨ 2 ^ (h - 1) < j)) (fun v _ => 16 - (intOf v).toNat)
      case atStart => exact ⟨0, by simp, by omega, by first | rfl | trivial, Lib.hid (.inl rfl)⟩
      case round =>
        obtain ⟨h, rfl, h4, rfl, HQ⟩ := hrel
        have hpw := pow4 h4
        have hps : 2 ^ (h + 1) = 2 ^ h * 2 := Nat.pow_succ 2 h
        have HP := Lib.hid hps
        have hp1 : 0 < 2 ^ h := Nat.pow_pos (by omega)
        clear hps
        obtain ⟨m, hm⟩ : ∃ m, 2 ^ h = m := ⟨_, rfl⟩
        have HM := Lib.hid hm
        rw [hm] at hpw hp1 ⊢
        clear hm
        by_cases hlt : m < j
        · have hh4 : h + 1 ≤ 4 := by
            rcases Nat.lt_or_ge h 4 with h5 | h5
            · omega
            · exfalso
              have h6 : h = 4 := by omega
              have h7 := HM.out
              rw [h6] at h7
              omega
          have HQ2 : Hid (h + 1 = 0 ∨ 2 ^ (h + 1 - 1) < j) := Lib.hid (.inr (by rw [Nat.add_sub_cancel, HM.out]; exact hlt))
          go_wp2_with (first | (at_make; refine Stop.un ?_) | (at_builtin; refine Stop.un ?_))
          go_roundw
          case rel => exact ⟨h + 1, by rw [HP.out, HM.out]; go_num, hh4, by first | rfl | trivial, HQ2⟩
          case measure => simp [intOf]; omega
        · have hjm : j ≤ m := by omega
          clear hlt
          go_wp2_with (first | (at_make; refine Stop.un ?_) | (at_builtin; refine Stop.un ?_))
          obtain ⟨i0, hi, hz0, hz1, hz2⟩ := info_parts Try.infoI64
          refine Stop.mk (wpList_make_full _ rfl _ _ 43 rfl w.heap.size 3 i0 (.int .i64 0) 1 Try.underlying43 hi hz0 hz1 _ _ _ _ m rfl rfl rfl rfl (by rw [hz2]; omega) (by unfold maxLen; omega) (Own.le N.O) ?_)
          intro w7 o7 g7
          have b7 : Below wr.heap.size wr w7 := (Below.refl _ _).grown g7 (Nat.le_refl _) (fun _ h => by cases h)
          have k7 : At w7 wr.heap.size (madeCells (Value.int .i64 0).cells (m * 1)).toList.toArray 3 := own_at15 o7
          rw [show (madeCells (Value.int .i64 0).cells (m * 1)).toList = (List.replicate m 0).map (fun k : Nat => Value.int .i64 k) from by simp [Value.cells, toList_madeCells_one]] at k7
          have hbw := (Own.below N.O).next b7
          obtain ⟨T, hge⟩ := NX.out.tre b7 k7 HN.out.2.2 HKM.out.1 HKM.out.2
          have z7 := N.z.mono b7
          have f7 := z7.free 2
          have y7 := z7.cell 2 rfl
          have gl7 := z7.lt
          have b8 := hbw.setCell (p := ⟨g, 2, none⟩) N.ge (.slice (some ⟨wr.heap.size, 0, none⟩) (List.replicate m 0).length (List.replicate m 0).length)
          have hre : (List.replicate m (0 : Nat)).length = m := List.length_replicate
          have HGE := Lib.hid hge
          clear o7 g7 hz2 hz1 hz0 hi i0 k7 hbw NX z7 N xl hge
          generalize List.replicate m (0 : Nat) = S0 at T b8 hre
          have HS0 := Lib.hid hre
          rw [hre] at T b8
          go_upto_region 13 with fail
          generalize hw8 : w7.setCell ⟨g, 2, none⟩ (.slice (some ⟨wr.heap.size, 0, none⟩) m m) = w8 at T b8 ⊢
          clear hw8 f7 y7 gl7 b7
          generalize wr.heap.size = gs at T HGE ⊢
          have hcn : cn (hds H) m h 1 ≤ H.length := by
            have := cn_le (hds H) m h 1 (by rw [HM.out]; omega)
            rw [HM.out, hds_length] at this
            omega
          have HPL := Lib.hid (fun W (T : Tre ⟨g, gs, ah, ch, a, p, c⟩ H ks S0 0 (fun k => k < w.heap.size) W) => play_any ⟨g, gs, ah, ch, a, p, c⟩ H ks (fun k => k < w.heap.size) m (by omega) (by have := HHL.out; omega) h 1 S0 0 W T HS0.out (by rw [HM.out]; omega) (by rw [HM.out]; omega) (by omega) (by have := HHL.out; omega))
          have HCN := Lib.hid hcn
          clear hcn
          refine mix_startK ⟨g, 2, none⟩ 8 rfl (by kernel_rfl) ?_
          intro xq hxq
          replace T := T.below hxq
          replace b8 := b8.next hxq
          have hbs := b8.size
          clear hxq
          have x2 : xq.cell? ⟨g, 2, none⟩ = some (.slice (some ⟨gs, 0, none⟩) m m) := by
            have := T.z.cell 2 rfl
            rw [HS0.out] at this
            exact this
          refine mix_quiet (Keeps.kc ⟨g, 2, none⟩) 0 rfl (by kernel_rfl) rfl ?_
          intro ι U hne hU
          go_big_quiet_op
          clear hU hne U ι
          show wpAnyM _ _ _ _ _ _ _ _ _
          refine mix_quiet (Keeps.kc ⟨g, 2, none⟩) 1 rfl (by kernel_rfl) rfl ?_
          intro ι U hne hU
          go_big_quiet_op
          clear hU hne U ι
          show wpAnyM _ _ _ _ _ _ _ _ _
          refine mix_quiet (Keeps.kc ⟨g, 2, none⟩) 2 rfl (by kernel_rfl) rfl ?_
          intro ι U hne hU
          go_big_quiet_op
          clear hU hne U ι
          show wpAnyM _ _ _ _ _ _ _ _ _
          refine mix_quiet (Keeps.kc ⟨g, 2, none⟩) 3 rfl (by kernel_rfl) rfl ?_
          intro ι U hne hU
          have hcw0 := fun ii => (hU ii _ x2)
          go_big_quiet_op
          clear hU hne hcw0 U ι
          show wpAnyM _ _ _ _ _ _ _ _ _
          refine mix_quiet (Keeps.kc ⟨g, 2, none⟩) 4 rfl (by kernel_rfl) rfl ?_
          intro ι U hne hU
          go_big_quiet_op
          clear hU hne U ι
          show wpAnyM _ _ _ _ _ _ _ _ _
          refine mix_any 5 rfl (by kernel_rfl) rfl ?_
          go_wp2_with (first | (at_make; refine Stop.un ?_) | (at_builtin; refine Stop.un ?_))
          refine (HPL.out _ T).mono ?_
          rintro e w9 ⟨v, S1, q1, rfl, T1, l1, hv, W1, -, Q1, N1, O1⟩
          go_wp2_with (first | (at_make; refine Stop.un ?_) | (at_builtin; refine Stop.un ?_))
          have y2 : w9.cell? ⟨g, 2, none⟩ = some (.slice (some ⟨gs, 0, none⟩) m m) := by
            have := T1.z.cell 2 rfl
            rw [l1] at this
            exact this
          refine MixPost.mk (fun u hu => by rw [x2] at hu; rw [← Option.some.inj hu]; exact y2) ?_
          have b9 := b8.trans (O1.low HGE.out hbs)
          have z2 := T1.zs
          have f2 := z2.free 0
          have hl1 : 0 < S1.length := by omega
          obtain ⟨s0, hs0⟩ : ∃ s0, S1[0]? = some s0 := ⟨_, List.getElem?_eq_getElem hl1⟩
          have c2 := z2.cell 0 (v := .int .i64 (s0 : Int)) (by simp [hs0])
          have cl2 := z2.lt
          have hne : gs ≠ g := fun e => T1.ne.1 e.symm
          have G := gd_set (h := h) T1 (by rw [HM.out]; exact l1) (by rw [HM.out, HHL.out]; exact hjm) h4 (by rw [HM.out]; exact W1)
          have b10 := b9.setCell (p := ⟨gs, 0, none⟩) (HGE.out gs (.inr (.inl rfl))) (.int .i64 (v : Int))
          have hq : q1 ≤ j - 1 := by
            have h1 := HCN.out
            rw [HHL.out] at h1
            by_cases g1 : (gt (hds H) v).isSome = true
            · rw [if_pos g1] at Q1; omega
            · rw [N1 (by simpa using g1)]; omega
          have HQQ := Lib.hid hq
          clear T T1 l1 W1 Q1 N1 O1 b8 hbs x2 y2 z2 hl1 hs0 HPL HCN hq b9
          refine mix_quiet (Keeps.kc ⟨g, 2, none⟩) 6 rfl (by kernel_rfl) rfl ?_
          intro ι U hne hU
          go_big_quiet_op
          clear hU hne U ι
          show wpAnyM _ _ _ _ _ _ _ _ _
          refine mix_any 7 rfl (by kernel_rfl) rfl ?_
          go_wp2_with (first | (at_make; refine Stop.un ?_) | (at_builtin; refine Stop.un ?_))
          refine MixPost.mk (fun u hu => by rw [World.cell?_of_block (a := ⟨g, 2, none⟩) (Below.heap_setCell _ _ _ _ (fun e => hne e.symm))]; exact hu) ?_
          refine mix_end (by kernel_rfl) ?_
          clear c2 f2 cl2
          go_wp2_with (first | (at_make; refine Stop.un ?_) | (at_builtin; refine Stop.un ?_))
          exact bodyPost_ret (v := .tuple #[.pointer (some ⟨g, 0, none⟩), .int .i64 0]) (by simp [results, Try.results10, go_sem]) rfl ⟨⟨g, gs, ah, ch, a, p, c⟩, H, q1, h, _, v, rfl, G, HH2.out, HQQ.out, HQ.out, b10, HGE.out, by rw [HM.out]; exact hjm⟩
/-! Lists of rows; the first row of all is the least; the first of rows, and lists in memory of their own. -/
section
variable {α : Type} (c : α → α → Int)
theorem sort_first (hneg : ∀ a b, c b a = - c a b) (htr : ∀ a b d, c a b ≤ 0 → c b d ≤ 0 → c a d ≤ 0) (A D : List α) (x : α) (hA : ∀ a ∈ A, 0 < c a x) (hD : ∀ d ∈ D, c x d ≤ 0) : sortB c (A ++ x :: D) = x :: sortB c (A ++ D) := by
  rw [sortB_app c hneg htr A (x :: D), show x :: D = [x] ++ D from rfl, sortB_app c hneg htr [x] D, sortB_app c hneg htr A D, sortB_one c [x] (Nat.le_refl _)]
  have h1 := mergeS_split c [x] [] [] (sortB c D) (fun a ha b hb => by
    rw [List.mem_singleton.1 ha]
    exact hD b ((sortB_perm c D).mem_iff.1 hb)) (fun b hb => by cases hb)
  rw [List.append_nil, List.nil_append, mergeS_nil, nil_mergeS] at h1
  rw [h1]
  have h2 := mergeS_split c [] [x] (sortB c A) (sortB c D) (fun a ha => by cases ha) (fun b hb a ha => by
    rw [List.mem_singleton.1 hb]
    exact hA a ((sortB_perm c A).mem_iff.1 ha))
  rw [List.nil_append, nil_mergeS] at h2
  exact h2
end
/-- The heads of lists. -/
def heads (L : List (List (List V))) : List (Option (List V)) := L.map List.head?
theorem gt_heads (L : List (List (List V))) (i : Nat) : gt (heads L) i = (L.getD i []).head? := by
  unfold gt heads
  rw [List.getD_eq_getElem?_getD, List.getD_eq_getElem?_getD, List.getElem?_map]
  cases L[i]? <;> rfl
theorem merge_first (ks : List Ky) (L : List (List (List V))) (hL : ∀ l ∈ L, Asc (fun a b => cmpR a b ks) l) (i : Nat) (hn : nxt ks (heads L) = some i) :
    ∃ x tl, L[i]? = some (x :: tl) ∧ sortL ks L.flatten = x :: sortL ks (L.set i tl).flatten := by
  have hneg : ∀ a b : List V, cmpR b a ks = - cmpR a b ks := fun a b => cmpR_neg a b ks
  have htr : ∀ a b d : List V, cmpR a b ks ≤ 0 → cmpR b d ks ≤ 0 → cmpR a d ks ≤ 0 := fun a b d h1 h2 => by
    have := cmpR_tri a b d ks
    unfold Tri at this
    omega
  obtain ⟨h1, h2, h3⟩ := nxt_is ks (heads L) hn
  have hil : i < L.length := by simpa [heads] using h2
  rw [gt_heads, List.getD_eq_getElem?_getD, List.getElem?_eq_getElem hil] at h1
  obtain ⟨x, tl, hx⟩ : ∃ x tl, L[i] = x :: tl := by
    cases e : L[i] with
    | nil => simp [e] at h1
    | cons x tl => exact ⟨x, tl, rfl⟩
  have hgi : gt (heads L) i = some x := by rw [gt_heads, List.getD_eq_getElem?_getD, List.getElem?_eq_getElem hil]; simp [hx]
  refine ⟨x, tl, by rw [List.getElem?_eq_getElem hil, hx], ?_⟩
  have hsp : L = L.take i ++ (x :: tl) :: L.drop (i + 1) := by
    have h4 := List.take_append_drop i L
    rw [List.drop_eq_getElem_cons hil, hx] at h4
    exact h4.symm
  have hst : L.set i tl = L.take i ++ tl :: L.drop (i + 1) := List.set_eq_take_append_cons_drop.trans (by rw [if_pos hil])
  have hall : ∀ u (hu : u < L.length), ∀ y ∈ L[u], ∃ z, gt (heads L) u = some z ∧ cmpR z y ks ≤ 0 := fun u hu y hy => by
    have ha := hL L[u] (List.getElem_mem _)
    have hg : gt (heads L) u = L[u].head? := by rw [gt_heads, List.getD_eq_getElem?_getD, List.getElem?_eq_getElem hu]; rfl
    generalize L[u] = l at ha hg hy
    cases l with
    | nil => cases hy
    | cons z l =>
      refine ⟨z, by rw [hg]; rfl, ?_⟩
      rcases List.mem_cons.1 hy with h4 | h4
      · rw [h4, cmpR_refl]; exact Int.le_refl _
      · exact (List.pairwise_cons.1 ha).1 y h4
  have key : ∀ u (hu : u < L.length), ∀ y ∈ L[u], (u < i → 0 < cmpR y x ks) ∧ cmpR x y ks ≤ 0 := fun u hu y hy => by
    obtain ⟨z, hz, hzy⟩ := hall u hu y hy
    have hb := h3 u (by simpa [heads] using hu)
    unfold btB at hb
    rw [hz, hgi] at hb
    simp only [Bool.or_eq_false_iff, Bool.and_eq_false_iff, decide_eq_false_iff_not] at hb
    have t1 := cmpR_tri x z y ks
    have t2 := cmpR_tri z y x ks
    have n1 := cmpR_neg x z ks
    have n2 := cmpR_neg x y ks
    have n3 := cmpR_neg z y ks
    unfold Tri at t1 t2
    refine ⟨fun hui => ?_, ?_⟩
    · omega
    · omega
  have hfl : L.flatten = (L.take i).flatten ++ x :: (tl ++ (L.drop (i + 1)).flatten) := by
    conv => lhs; rw [hsp]
    simp
  rw [hst, List.flatten_append, List.flatten_cons, hfl]
  unfold sortL
  refine sort_first (fun a b => cmpR a b ks) hneg htr _ _ x (fun a ha => ?_) (fun d hd => ?_)
  · obtain ⟨l, hl, hal⟩ := List.mem_flatten.1 ha
    obtain ⟨u, hu, e⟩ := List.mem_take_iff_getElem.1 hl
    exact (key u (by omega) a (by rw [e]; exact hal)).1 (by omega)
  · rcases List.mem_append.1 hd with h4 | h4
    · exact (key i hil d (by rw [hx]; exact List.mem_cons_of_mem _ h4)).2
    · obtain ⟨l, hl, hdl⟩ := List.mem_flatten.1 h4
      obtain ⟨u, hu, e⟩ := List.mem_drop_iff_getElem.1 hl
      exact (key (i + 1 + u) (by omega) d (by rw [e]; exact hdl)).2
theorem merge_done (ks : List Ky) (L : List (List (List V))) (hn : nxt ks (heads L) = none) : L.flatten = [] := by
  rw [List.flatten_eq_nil_iff]
  intro l hl
  obtain ⟨u, hu, e⟩ := List.getElem_of_mem hl
  cases l with
  | nil => rfl
  | cons x tl =>
    exfalso
    have hg : ∀ v, gt (heads L) v = (L.getD v []).head? := gt_heads L
    -- some list has a row: then one of them is the least
    have hex : ∃ w, w < (heads L).length ∧ (gt (heads L) w).isSome = true ∧ ∀ v, v < (heads L).length → btB ks (heads L) v w = false := by
      have hu2 : u < (heads L).length := by simpa [heads] using hu
      have hsome : (gt (heads L) u).isSome = true := by rw [hg, List.getD_eq_getElem?_getD, List.getElem?_eq_getElem hu, e]; rfl
      generalize heads L = H at hu2 hsome
      -- by induction on the number of lists looked at
      have : ∀ n, n ≤ H.length → (∃ w, w < n ∧ (gt H w).isSome = true) → ∃ w, w < n ∧ (gt H w).isSome = true ∧ ∀ v, v < n → btB ks H v w = false := by
        intro n
        induction n with
        | zero => rintro _ ⟨w, hw, _⟩; omega
        | succ n ih =>
          rintro hn1 ⟨w, hw, hws⟩
          by_cases hold : ∃ w, w < n ∧ (gt H w).isSome = true
          · obtain ⟨w1, k1, k2, k3⟩ := ih (by omega) hold
            cases hb : btB ks H n w1 with
            | false => exact ⟨w1, by omega, k2, fun v hv => by
                rcases Nat.lt_or_ge v n with h5 | h5
                · exact k3 v h5
                · rw [show v = n by omega]; exact hb⟩
            | true => exact ⟨n, by omega, by
                unfold btB at hb
                cases e1 : gt H n with
                | none => rw [e1] at hb; cases hb
                | some _ => rfl, fun v hv => by
                rcases Nat.lt_or_ge v n with h5 | h5
                · exact bt_tr ks H v w1 n (k3 v h5) (bt_asym hb)
                · rw [show v = n by omega]; exact bt_irr ks H n⟩
          · have hwn : w = n := by
              rcases Nat.lt_or_ge w n with h5 | h5
              · exact absurd ⟨w, h5, hws⟩ hold
              · omega
            subst hwn
            refine ⟨w, by omega, hws, fun v hv => ?_⟩
            rcases Nat.lt_or_ge v w with h5 | h5
            · have h6 : gt H v = none := by
                cases e1 : gt H v with
                | none => rfl
                | some _ => exact absurd ⟨v, h5, by rw [e1]; rfl⟩ hold
              unfold btB
              rw [h6]
            · rw [show v = w by omega]; exact bt_irr ks H w
      exact this H.length (Nat.le_refl _) ⟨u, hu2, hsome⟩
    obtain ⟨w, k1, k2, k3⟩ := hex
    rw [nxt_some ks (heads L) w k2 k3] at hn
    cases hn
/-- A list of rows: where it lies, and its rows. -/
structure Lw where
  a : Option Addr
  n : Nat
  cap : Nat
  rs : List Rw
def Lw.sl (r : Lw) : Value := .slice r.a r.n r.cap
def lwcells (ls : List Lw) : List Value := ls.map Lw.sl
theorem lwcells_length (l : List Lw) : (lwcells l).length = l.length := by simp [lwcells]
theorem lwcells_one (l : List Lw) : ∀ u ∈ lwcells l, u.oneCell' = true := by
  intro u hu; obtain ⟨_, _, rfl⟩ := List.mem_map.1 hu; rfl
structure LwOk (w : World) (l : Lw) : Prop where
  tab : Tab w l.a l.rs
  len : l.rs.length = l.n
  le : l.n ≤ l.cap
  max : l.cap ≤ maxLen
theorem LwOk.mono {w w' : World} {l : Lw} (h : LwOk w l) (b : Below w.heap.size w w') : LwOk w' l := ⟨h.tab.mono b, h.len, h.le, h.max⟩
structure Lists (w : World) (ao : Option Addr) (ls : List Lw) : Prop where
  cs : Cs w ao (lwcells ls)
  ok : ∀ l ∈ ls, LwOk w l
theorem Lists.mono {w w' : World} {ao : Option Addr} {ls : List Lw} (h : Lists w ao ls) (b : Below w.heap.size w w') : Lists w' ao ls := ⟨h.cs.mono b (Nat.le_refl _), fun l hl => (h.ok l hl).mono b⟩
theorem Lists.at {w : World} {b o : Nat} {ls : List Lw} (h : Lists w (some ⟨b, o, none⟩) ls) {i : Nat} (hi : i < ls.length) : w.cell? ⟨b, o + i, none⟩ = some (.slice ls[i].a ls[i].n ls[i].cap) :=
  h.cs.at (by simp [lwcells, hi, Lw.sl])
theorem Lists.take {w : World} {ao : Option Addr} {ls : List Lw} (h : Lists w ao ls) (k : Nat) : Lists w ao (ls.take k) :=
  ⟨by have := h.cs.take k; rwa [show (lwcells ls).take k = lwcells (ls.take k) by simp [lwcells, List.map_take]] at this, fun r hr => h.ok r (List.mem_of_mem_take hr)⟩
def Lw.rows (l : Lw) : List (List V) := l.rs.map (·.l)
/-- The list without its first row. -/
def Lw.tl (l : Lw) : Lw := ⟨if l.cap = 1 then l.a else l.a.map fun x => x.add 1, l.n - 1, l.cap - 1, l.rs.tail⟩
theorem Lw.tl_rows (l : Lw) : l.tl.rows = l.rows.tail := by simp [Lw.tl, Lw.rows, List.map_tail]
theorem LwOk.tl {w : World} {l : Lw} (h : LwOk w l) (hn : 0 < l.n) : LwOk w l.tl := by
  refine ⟨⟨?_, fun r hr => h.tab.ok r (List.mem_of_mem_tail hr)⟩, by simp [Lw.tl, h.len], by simp only [Lw.tl]; have := h.le; omega, by simp only [Lw.tl]; have := h.max; omega⟩
  have := h.tab.cs.cut 1 l.cap (by rw [rwcells_length, h.len]; exact h.le)
  rwa [show (rwcells l.rs).drop 1 = rwcells l.rs.tail by simp [rwcells]] at this
/-- The first of rows. -/
def Lw.fst (l : Lw) : Option (List V) := l.rows.head?
set_option maxHeartbeats 1000000 in
theorem first_any (l : Lw) (w : World) (h : LwOk w l) :
    Calls Try.prog 27 #[.slice l.a l.n l.cap] w (fun e w' => ∃ r, e = .returned (.slice r.a r.n r.cap) ∧ hd r = l.fst ∧ RowOk w' r ∧ Below w.heap.size w w' ∧ (r.n = 0 ∨ ∃ x ∈ l.rs, r = x)) := by
  obtain ⟨a, n, cap, rs⟩ := l
  obtain ⟨tab, len, le, mx⟩ := h
  simp only at tab len le mx ⊢
  unfold maxLen at mx
  cases rs with
  | nil =>
    obtain rfl : n = 0 := by simpa using len.symm
    clear tab len
    go_enter Try.func27, Try.ntmps27
    go_wp2_with (first | (at_make; refine Stop.un ?_) | (at_builtin; refine Stop.un ?_))
    go_ret
    exact ⟨nilRw, rfl, rfl, nilRw_ok _, Below.refl _ _, .inl rfl⟩
  | cons r rs =>
    have hn : 0 < n := by simp at len; omega
    obtain ⟨b, o, rfl⟩ := tab.cs.addr (by rw [rwcells_length]; simp)
    have x0 := tab.at (i := 0) (by simp)
    have ro := tab.ok r (List.mem_cons_self ..)
    simp only [Nat.add_zero, List.getElem_cons_zero] at x0
    obtain ⟨ra, rn, rc, rl⟩ := r
    simp only at x0
    have HRO := Lib.hid ro
    have hx : (ra = none → rl = []) := fun e => by
      have h1 := ro.cs
      simp only [e] at h1
      have h2 := cs_none h1
      have h3 := congrArg List.length h2
      rw [vcells_length] at h3
      exact List.eq_nil_of_length_eq_zero (by simp at h3; omega)
    have HX := Lib.hid hx
    have hn0 : (n == 0) = false := by simp; omega
    have hn1 : decide ((n : Int) = 0) = false := decide_eq_false (by omega)
    have hn2 : ((n : Int) == 0) = false := by simp; omega
    clear tab len ro hx
    cases ra with
    | none =>
      go_enter Try.func27, Try.ntmps27
      go_wp2_with (first | (at_make; refine Stop.un ?_) | (at_builtin; refine Stop.un ?_) | (with_reducible refine Stop.eql 26 ?_) | (with_reducible refine Stop.neq 26 ?_))
      refine Stop.mk (wpList_as _ rfl (exec_nilR _ _ _ rfl rfl _) ?_)
      go_wp2_with (first | (at_make; refine Stop.un ?_) | (at_builtin; refine Stop.un ?_))
      go_ret
      refine ⟨⟨some ⟨w.heap.size, 0, none⟩, 0, 0, []⟩, by first | rfl | simp, ?_, ⟨Cs.nil _ _, rfl, Nat.le_refl _, Nat.zero_le _, fun _ h => by cases h⟩, (Below.refl _ _).alloc (Nat.le_refl _) _, .inl rfl⟩
      show some [] = some rl
      rw [HX.out (by first | rfl | trivial)]
    | some ad =>
      go_enter Try.func27, Try.ntmps27
      go_wp2_with (first | (at_make; refine Stop.un ?_) | (at_builtin; refine Stop.un ?_) | (with_reducible refine Stop.eql 26 ?_) | (with_reducible refine Stop.neq 26 ?_))
      refine Stop.mk (wpList_as _ rfl (exec_nilR _ _ _ rfl rfl _) ?_)
      go_wp2_with (first | (at_make; refine Stop.un ?_) | (at_builtin; refine Stop.un ?_))
      go_ret
      exact ⟨_, by first | rfl | simp, rfl, HRO.out, Below.refl _ _, .inr ⟨_, List.mem_cons_self .., rfl⟩⟩
theorem Try.infoLw : (Try.prog.info? 22).map (fun i => (i.zero, i.size, i.bytes)) = some (some (.slice none 0 0), 1, 24) := by kernel_rfl
set_option maxHeartbeats 1000000 in
theorem lclone_any (ao : Option Addr) (n cap : Nat) (ls : List Lw) (w : World) (h : Cs w ao (lwcells ls)) (hn : ls.length = n) (hnc : n ≤ cap) (hcap : cap ≤ maxLen) (hn2 : n ≤ 1000000) :
    Calls Try.prog 26 #[.slice ao n cap] w (fun e w' => ∃ a c, e = .returned (.slice a n c) ∧ Own w w' 22 1 (.slice a n c) n (lwcells ls)) := by
  unfold maxLen at hcap
  have HP := Lib.hid hn
  cases ao with
  | none =>
    have h0 : ls = [] := by
      have := cs_none h
      cases ls with
      | nil => rfl
      | cons k l => simp [lwcells] at this
    subst h0
    obtain rfl : n = 0 := by simpa using hn.symm
    clear h hn
    go_enter Try.func26, Try.ntmps26
    go_wp2_with (first | (at_make; refine Stop.un ?_) | (at_builtin; refine Stop.un ?_) | (with_reducible refine Stop.eql 23 ?_) | (with_reducible refine Stop.eql 40 ?_))
    refine Stop.mk (wpList_as _ rfl (exec_nilS Try.underlying40 _ _ _ rfl rfl _) ?_)
    go_wp2_with (first | (at_make; refine Stop.un ?_) | (at_builtin; refine Stop.un ?_))
    go_ret
    exact ⟨none, 0, rfl, Own.nil _ _ (Below.refl _ _)⟩
  | some ad =>
    clear hn
    go_enter Try.func26, Try.ntmps26
    go_wp2_with (first | (at_make; refine Stop.un ?_) | (at_builtin; refine Stop.un ?_) | (with_reducible refine Stop.eql 23 ?_) | (with_reducible refine Stop.eql 40 ?_))
    refine Stop.mk (wpList_as _ rfl (exec_nilS Try.underlying40 _ _ _ rfl rfl _) ?_)
    go_wp2_with (first | (at_make; refine Stop.un ?_) | (at_builtin; refine Stop.un ?_))
    have hO : Own w (w.alloc (.cells #[] 22)) 22 1 (.slice (some ⟨w.heap.size, 0, none⟩) 0 0) 0 [] := Own.block (Below.refl _ _) rfl (by decide)
    refine Stop.mk (wpList_append_Own w 22 (.slice none 0 0) 1 24 Try.infoLw rfl (by decide) _ _ 40 40 Try.underlying40 rfl rfl _ 0 [] hO rfl _ n (lwcells ls) rfl
      (Src.ofCs Try.underlying40 (h.alloc _) (by rw [lwcells_length, HP.out, Nat.mul_one]) (lwcells_one _)) (by omega) (by omega) (fun ao cap w' h1 h2 _ h4 => ?_))
    simp only [Nat.zero_add, List.nil_append] at h1 ⊢
    clear hO
    go_wp2_with (first | (at_make; refine Stop.un ?_) | (at_builtin; refine Stop.un ?_))
    go_ret
    exact ⟨_, _, by first | rfl | simp, h1⟩
/-! Merge: lists that are in order, as one. -/
theorem Own.oth {P : Nat → Prop} {w0 w x : World} {e size n : Nat} {v : Value} {xs : List Value} (h : Own w0 w e size v n xs) (o : Oth P w x) (hv : ∀ k, v.ownBlock = some k → ¬ P k) (hP : ∀ k, P k → w0.heap.size ≤ k) : Own w0 x e size v n xs :=
  ⟨o.owns h.1 hv, h.2.trans (o.low hP h.le)⟩
theorem Oth.of_grown {w x : World} {row : Option Nat} (g : w.grownBy x row) : Oth (fun k => row = some k) w x := ⟨g.os, g.tape, g.output, g.size, fun k hk hn => g.block k hk (fun e => hn e.symm)⟩
theorem Tre.grow {t : Tr} {H : List Rw} {ks : List Ky} {S : List Nat} {q : Nat} {A : Nat → Prop} {w x : World} {P A' : Nat → Prop} (h : Tre t H ks S q A w) (o : Oth P w x) (hP : ∀ k, k < w.heap.size → P k → A k) (hA : ∀ k, A' k → (A k ∨ w.heap.size ≤ k) ∧ k < x.heap.size) : Tre t H ks S q A' x := by
  have hx := h.oth o hP
  have hml : ∀ k, t.mut k → k < w.heap.size := fun k hk => by
    rcases hk with rfl | rfl | ⟨a, e, rfl⟩
    · exact h.z.lt
    · exact h.zs.lt
    · exact (h.hh.lt _ (by rw [e]; rfl)).2
  refine ⟨hx.z, hx.zs, hx.hh, fun r hr => ⟨(hx.rows r hr).1, fun a ha => ⟨((hx.rows r hr).2 a ha).1, ((hx.rows r hr).2 a ha).2.1, fun ha2 => ?_⟩⟩, hx.kcs, hx.kl, hx.kle, hx.kmx, fun hne a ha => ⟨(hx.kad hne a ha).1, fun ha2 => ?_⟩, hx.ne, fun k hk ha2 => ?_, fun k hk => (hA k hk).2⟩
  · have h1 := (h.rows r hr).2 a ha
    rcases (hA _ ha2).1 with h2 | h2
    · exact h1.2.2 h2
    · omega
  · rcases (hA _ ha2).1 with h2 | h2
    · exact (h.kad hne a ha).2 h2
    · have hne2 : kcells ks ≠ [] := fun e => hne (by
        cases ks with
        | nil => rfl
        | cons k l => simp [kcells] at e)
      obtain ⟨b2, o2, e2, hcell⟩ := h.kcs 0 ((kcells ks)[0]'(List.length_pos_iff.2 hne2)) (List.getElem?_eq_getElem _)
      have h3 := ha.symm.trans e2
      have h4 := lt_cell hcell
      rw [Option.some.inj h3] at h2
      simp only at h4 h2
      omega
  · have h1 := hml k hk
    rcases (hA _ ha2).1 with h2 | h2
    · exact h.notA k hk h2
    · omega
theorem Gd.grow {t : Tr} {H : List Rw} {ks : List Ky} {S : List Nat} {q h v : Nat} {A : Nat → Prop} {w x : World} {P A' : Nat → Prop} (G : Gd t H ks q A w h S v) (o : Oth P w x) (hP : ∀ k, k < w.heap.size → P k → A k) (hA : ∀ k, A' k → (A k ∨ w.heap.size ≤ k) ∧ k < x.heap.size) : Gd t H ks q A' x h S v := ⟨G.T.grow o hP hA, G.len, G.hl, G.h4, G.s0, G.vl, G.won⟩
/-- What lies where while lists are merged. -/
structure MgM (wb wN wT : World) (tr : Tr) (a : Option Addr) (n c : Nat) (ks : List Ky) (h : Nat) (ab : Option Addr) (N cb : Nat) (cur : List Lw) (rs : List Rw) (H : List Rw) (q : Nat) (S : List Nat) (v : Nat) (w : World) : Prop where
  L : Own wb w 22 1 (.slice a n c) n (lwcells cur)
  O : OwnRs wb w (.slice ab N cb) N rs
  G : Gd tr H ks q (fun k => k < wN.heap.size ∨ (Value.slice ab N cb).ownBlock = some k) w h S v
  rows : ∀ r ∈ rs, RowOk w r ∧ ∀ x, r.a = some x → wT.heap.size ≤ x.block ∧ x.block < w.heap.size ∧ (Value.slice ab N cb).ownBlock ≠ some x.block
  own : ∀ k, (Value.slice ab N cb).ownBlock = some k → wT.heap.size ≤ k
  sz : wT.heap.size ≤ w.heap.size
/-- What does not change while lists are merged. -/
structure MgF (wb wN wT : World) (tr : Tr) (a : Option Addr) (n c : Nat) : Prop where
  s1 : wb.heap.size ≤ wN.heap.size
  s2 : wN.heap.size ≤ wT.heap.size
  m : ∀ k, tr.mut k → wN.heap.size ≤ k ∧ k < wT.heap.size
  r : ∀ k, (Value.slice a n c).ownBlock = some k → wb.heap.size ≤ k ∧ k < wN.heap.size
section
variable {wb wN wT : World} {tr : Tr} {a : Option Addr} {n c : Nat} {ks : List Ky} {h : Nat} {ab : Option Addr} {N cb : Nat} {cur : List Lw} {rs H : List Rw} {q : Nat} {S : List Nat} {v : Nat} {w x : World}
theorem MgM.below (M : MgM wb wN wT tr a n c ks h ab N cb cur rs H q S v w) (b : Below w.heap.size w x) : MgM wb wN wT tr a n c ks h ab N cb cur rs H q S v x :=
  ⟨Own.keep M.L b, Own.keep M.O b, M.G.below b, fun r hr => ⟨(M.rows r hr).1.mono b, fun y hy => ⟨((M.rows r hr).2 y hy).1, Nat.lt_of_lt_of_le ((M.rows r hr).2 y hy).2.1 b.size, ((M.rows r hr).2 y hy).2.2⟩⟩, M.own, Nat.le_trans M.sz b.size⟩
theorem MgM.push (F : MgF wb wN wT tr a n c) (M : MgM wb wN wT tr a n c ks h ab N cb cur rs H q S v w) {r : Rw} (ro : RowOk w r) (rb : ∀ y, r.a = some y → wT.heap.size ≤ y.block ∧ y.block < w.heap.size ∧ (Value.slice ab N cb).ownBlock ≠ some y.block)
    {ab' : Option Addr} {cb' : Nat} (O : OwnRs wb x (.slice ab' (N + 1) cb') (N + 1) (rs ++ [r])) (g : w.grownBy x (Value.slice ab N cb).ownBlock) (gk : ∀ k, (Value.slice ab' (N + 1) cb').ownBlock = some k → (Value.slice ab N cb).ownBlock = some k ∨ w.heap.size ≤ k) :
    MgM wb wN wT tr a n c ks h ab' (N + 1) cb' cur (rs ++ [r]) H q S v x := by
  have hap : Apart (.slice a n c) (.slice ab N cb) := fun k hk e => by
    have h1 := F.r k hk
    have h2 := M.own k e
    have h3 := F.s2
    omega
  have hsN : wN.heap.size ≤ w.heap.size := Nat.le_trans F.s2 M.sz
  refine ⟨Own.beside M.L g hap (Own.below O), O, M.G.grow (Oth.of_grown g) (fun k _ hk => .inr hk) (fun k hk => ?_), fun y hy => ?_, fun k hk => ?_, Nat.le_trans M.sz g.size⟩
  · rcases hk with h1 | h1
    · exact ⟨.inl (.inl h1), Nat.lt_of_lt_of_le (Nat.lt_of_lt_of_le h1 hsN) g.size⟩
    · refine ⟨?_, Own.lt O k h1⟩
      rcases gk k h1 with h2 | h2
      · exact .inl (.inr h2)
      · exact .inr h2
  · have hy2 : RowOk w y ∧ ∀ x, y.a = some x → wT.heap.size ≤ x.block ∧ x.block < w.heap.size ∧ (Value.slice ab N cb).ownBlock ≠ some x.block := by
      rcases List.mem_append.1 hy with h1 | h1
      · exact M.rows y h1
      · rw [List.mem_singleton.1 h1]; exact ⟨ro, rb⟩
    refine ⟨⟨hy2.1.cs.grown g (fun z hz => ⟨(hy2.2 z hz).2.1, (hy2.2 z hz).2.2⟩), hy2.1.len, hy2.1.le, hy2.1.max, hy2.1.kind⟩, fun z hz => ⟨(hy2.2 z hz).1, Nat.lt_of_lt_of_le (hy2.2 z hz).2.1 g.size, fun e => ?_⟩⟩
    rcases gk _ e with h2 | h2
    · exact (hy2.2 z hz).2.2 h2
    · have := (hy2.2 z hz).2.1; omega
  · rcases gk k hk with h2 | h2
    · exact M.own k h2
    · exact Nat.le_trans M.sz h2
theorem MgM.cut (F : MgF wb wN wT tr a n c) (M : MgM wb wN wT tr a n c ks h ab N cb cur rs H q S v w) {gr : Nat} (ha : a = some ⟨gr, 0, none⟩) (i : Nat) (l : Lw) :
    MgM wb wN wT tr a n c ks h ab N cb (cur.set i l) rs H q S v (w.setCell ⟨gr, i, none⟩ (.slice l.a l.n l.cap)) := by
  subst ha
  have hgr := F.r gr rfl
  have o : Oth (fun k => k = gr) w (w.setCell ⟨gr, i, none⟩ (.slice l.a l.n l.cap)) := (Oth.refl _ w).set _ _ (.inl rfl)
  have hs2 := F.s2
  refine ⟨?_, Own.oth M.O o (fun k hk e => ?_) (fun k hk => by rw [hk]; exact hgr.1), M.G.oth o (fun k _ hk => .inl (by rw [hk]; exact hgr.2)), fun r hr => ⟨o.row (M.rows r hr).1 (fun y hy e => ?_), fun y hy => ⟨((M.rows r hr).2 y hy).1, Nat.lt_of_lt_of_le ((M.rows r hr).2 y hy).2.1 o.size, ((M.rows r hr).2 y hy).2.2⟩⟩, M.own, Nat.le_trans M.sz o.size⟩
  · have h1 : Own wb (w.setCell ⟨gr, i, none⟩ (.slice l.a l.n l.cap)) 22 1 (.slice (some ⟨gr, 0, none⟩) n c) n ((lwcells cur).set i (.slice l.a l.n l.cap)) := ⟨(M.L.1.stored i _).1, M.L.2.setCell (p := ⟨gr, i, none⟩) hgr.1 _⟩
    rwa [show (lwcells cur).set i (.slice l.a l.n l.cap) = lwcells (cur.set i l) by simp [lwcells, List.map_set, Lw.sl]] at h1
  · have := M.own k hk
    omega
  · have := ((M.rows r hr).2 y hy).1
    omega
theorem MgM.put (F : MgF wb wN wT tr a n c) (M : MgM wb wN wT tr a n c ks h ab N cb cur rs H q S v w) (o : Oth tr.mut w x) {H' : List Rw} {q' : Nat} {S' : List Nat} {v' : Nat} (G' : Gd tr H' ks q' (fun k => k < wN.heap.size ∨ (Value.slice ab N cb).ownBlock = some k) x h S' v') :
    MgM wb wN wT tr a n c ks h ab N cb cur rs H' q' S' v' x := by
  have hs1 := F.s1
  refine ⟨Own.oth M.L o (fun k hk hm => ?_) (fun k hm => ?_), Own.oth M.O o (fun k hk hm => ?_) (fun k hm => ?_), G', fun r hr => ⟨o.row (M.rows r hr).1 (fun y hy hm => ?_), fun y hy => ⟨((M.rows r hr).2 y hy).1, Nat.lt_of_lt_of_le ((M.rows r hr).2 y hy).2.1 o.size, ((M.rows r hr).2 y hy).2.2⟩⟩, M.own, Nat.le_trans M.sz o.size⟩
  · have := F.m k hm
    have := F.r k hk
    omega
  · have := F.m k hm
    omega
  · have := F.m k hm
    have := M.own k hk
    omega
  · have := F.m k hm
    omega
  · have := F.m _ hm
    have := ((M.rows r hr).2 y hy).1
    omega
end
def lenOf : Value → Nat
  | .slice _ n _ => n
  | _ => 0
theorem rowOk_nil (w : World) {w' : World} {r : Rw} (h : RowOk w' r) (hn : r.n = 0) : RowOk w r := by
  have h1 : r.l = [] := List.eq_nil_of_length_eq_zero (by rw [h.len]; exact hn)
  exact ⟨by rw [h1]; exact Cs.nil _ _, h.len, h.le, h.max, h.kind⟩
set_option maxRecDepth 100000 in
set_option maxHeartbeats 8000000 in
theorem merge_any (ao : Option Addr) (n cap : Nat) (ls : List Lw) (ak : Option Addr) (p ck : Nat) (ks : List Ky) (w : World) (t : Lists w ao ls) (hn : ls.length = n) (hnc : n ≤ cap) (hcap : cap ≤ maxLen) (hn2 : n ≤ 16) (hr : ∀ l ∈ ls, ∀ r ∈ l.rs, r.n ≤ 1000000) (hasc : ∀ l ∈ ls, Asc (fun a b => cmpR a b ks) l.rows) (hT : (ls.map Lw.rows).flatten.length ≤ 100000)
    (hk : Cs w ak (kcells ks)) (hp : ks.length = p) (hlp : p ≤ ck) (hcm : ck ≤ maxLen) (hp2 : p ≤ 1000000) :
    Calls Try.prog 16 #[.slice ao n cap, .slice ak p ck] w (fun e w' => ∃ ab N cb rs, e = .returned (.tuple #[.slice ab N cb, .int .i64 0]) ∧ OwnRs w w' (.slice ab N cb) N rs ∧ (∀ r ∈ rs, RowOk w' r) ∧ rs.map (·.l) = sortL ks (ls.map Lw.rows).flatten) := by
  have HN := Lib.hid (And.intro hn (And.intro hr (And.intro hasc hT)))
  have HLC := Lib.hid (lclone_any ao n cap ls w t.cs hn hnc hcap (by omega))
  have HOK := Lib.hid t.ok
  have HNEW := Lib.hid (fun ah ch (hs : List Rw) W T h1 h2 h3 h4 kx => new_any ah n ch hs ak p ck ks W T h1 h2 h3 hn2 h4 kx hp hlp hcm hp2)
  unfold maxLen at hcap
  clear hn hr hasc hT t hp hlp hcm hp2
  go_enter Try.func16, Try.ntmps16
  go_wp2_with (first | (at_make; refine Stop.un ?_) | (at_builtin; refine Stop.un ?_))
  refine HLC.out.mono ?_
  rintro e w1 ⟨a, c, rfl, L⟩
  have hlc := owns_le L.1
  have hlm := owns_max L.1
  have HLM := Lib.hid (And.intro hlc hlm)
  clear HLC hlm
  go_wp2_with (first | (at_make; refine Stop.un ?_) | (at_builtin; refine Stop.un ?_))
  go_loopw [19, 7] (fun i v wr => ∃ (j : Nat) (ah : Option Addr) (ch : Nat) (hs : List Rw), j ≤ n ∧ i = .int .i64 (j : Int) ∧ v = .slice ah j ch ∧ Own w wr 22 1 (.slice a n c) n (lwcells ls) ∧ OwnRs w wr (.slice ah j ch) j hs ∧ Apart (.slice a n c) (.slice ah j ch) ∧ Hid (hds hs = heads ((ls.take j).map Lw.rows) ∧ ∀ r ∈ hs, RowOk w r ∧ r.n ≤ 1000000)) (fun i _ _ => n - (intOf i).toNat)
  case atStart => exact ⟨0, none, 0, [], Nat.zero_le _, rfl, rfl, L, Own.nil _ _ (Own.below L), Apart.nil _, Lib.hid ⟨rfl, fun r h => by cases h⟩⟩
  case round =>
    clear L
    obtain ⟨j, ah, ch, hs, hj, rfl, rfl, L, O, AP, HH⟩ := hrel
    by_cases hlt : j < n
    · have hjl : j < ls.length := by have := HN.out.1; omega
      have csL := Own.cs L
      obtain ⟨b, o, rfl⟩ := csL.addr (by rw [lwcells_length]; omega)
      have x0 : wr.cell? ⟨b, o + j, none⟩ = some (.slice ls[j].a ls[j].n ls[j].cap) := csL.at (by simp [lwcells, hjl, Lw.sl])
      have lk := HOK.out ls[j] (List.getElem_mem _)
      have HRN := Lib.hid (HN.out.2.1 ls[j] (List.getElem_mem _))
      have HT : Hid ((ls.take (j + 1)).map Lw.rows = (ls.take j).map Lw.rows ++ [ls[j].rows]) := Lib.hid (by rw [List.take_succ_eq_append_getElem hjl, List.map_append]; rfl)
      generalize ls[j] = l at x0 lk HRN HT
      have HF := Lib.hid (first_any l wr (lk.mono (Own.below L)))
      have HLK := Lib.hid lk
      clear hjl lk csL
      go_wp2_with (first | (at_make; refine Stop.un ?_) | (at_builtin; refine Stop.un ?_))
      refine HF.out.mono ?_
      rintro e w2 ⟨r, rfl, hd', ro', b2, hx⟩
      replace L := Own.keep L b2
      replace O := Own.keep O b2
      have HRW : Hid (RowOk w r ∧ r.n ≤ 1000000 ∧ hd r = l.rows.head?) := Lib.hid (by
        rcases hx with hx | ⟨y, hy, rfl⟩
        · exact ⟨rowOk_nil w ro' hx, by omega, hd'⟩
        · exact ⟨HLK.out.tab.ok _ hy, HRN.out _ hy, hd'⟩)
      clear HF HLK HRN b2 ro' hx hd' x0
      go_wp2_with (first | (at_make; refine Stop.un ?_) | (at_builtin; refine Stop.un ?_))
      refine Stop.mk (app_rw1 (r := r) w _ _ rfl rfl O rfl rfl (by omega) ?_)
      intro a3 c3 w3 O3 g3 k3
      have L3 := Own.beside L g3 AP (Own.below O3)
      have AP3 := Own.apart L AP k3
      have HH2 : Hid (hds (hs ++ [r]) = heads ((ls.take (j + 1)).map Lw.rows) ∧ ∀ y ∈ hs ++ [r], RowOk w y ∧ y.n ≤ 1000000) := Lib.hid (by
        refine ⟨?_, fun y hy => ?_⟩
        · have h1 := HH.out.1
          rw [HT.out]
          unfold hds heads at h1 ⊢
          rw [List.map_append, List.map_append, h1]
          simp [HRW.out.2.2]
        · rcases List.mem_append.1 hy with h1 | h1
          · exact HH.out.2 y h1
          · rw [List.mem_singleton.1 h1]; exact ⟨HRW.out.1, HRW.out.2.1⟩)
      clear L O AP g3 k3 HH HRW HT
      go_wp2_with (first | (at_make; refine Stop.un ?_) | (at_builtin; refine Stop.un ?_))
      go_roundw
      case rel => exact ⟨j + 1, a3, c3, _, by omega, by go_num, rfl, L3, O3, AP3, HH2⟩
      case measure => simp [intOf]; omega
    · obtain rfl : j = n := by omega
      have T : Tab wr ah hs := ⟨Own.cs O, fun r hr => (HH.out.2 r hr).1.mono (Own.below O)⟩
      have HNW := Lib.hid (HNEW.out ah ch hs wr T (OwnRs.length O) (owns_le O.1) (owns_max O.1) (fun r hr => (HH.out.2 r hr).2) (hk.mono (Own.below O) (Nat.le_refl _)))
      have HHD : Hid (hds hs = heads (ls.map Lw.rows)) := Lib.hid (by rw [HH.out.1, List.take_of_length_le (by have := HN.out.1; omega)])
      obtain ⟨wN, hwN⟩ : ∃ wN, wN = wr := ⟨_, rfl⟩
      subst hwN
      clear HNEW HH AP T O
      go_wp2_with (first | (at_make; refine Stop.un ?_) | (at_builtin; refine Stop.un ?_))
      refine HNW.out.mono ?_
      rintro e wT ⟨tr, H, q, h, S, v, rfl, G, hH, hq, -, bN, hm, -⟩
      have hwb := Own.le L
      have hml : ∀ k, tr.mut k → k < wT.heap.size := fun k hk => by
        rcases hk with rfl | rfl | ⟨y, e, rfl⟩
        · exact G.T.z.lt
        · exact G.T.zs.lt
        · exact (G.T.hh.lt _ (by rw [e]; rfl)).2
      have F : MgF w wN wT tr a j c := ⟨hwb, bN.size, fun k hk => ⟨hm k hk, hml k hk⟩, fun k hk => ⟨Own.ge L k hk, Own.lt L k hk⟩⟩
      have M : MgM w wN wT tr a j c ks h none 0 0 ls [] H q S v wT := ⟨Own.keep L bN, Own.nil _ _ ((Own.below L).next bN), G.more (Below.refl _ _) (fun k hk => by
        rcases hk with h1 | h1
        · exact ⟨.inl h1, Nat.lt_of_lt_of_le h1 bN.size⟩
        · simp [Value.ownBlock] at h1), (fun r hr => by cases hr), (fun k hk => by simp [Value.ownBlock] at hk), Nat.le_refl _⟩
      obtain ⟨SS, hSS⟩ : ∃ SS, sortL ks (ls.map Lw.rows).flatten = SS := ⟨_, rfl⟩
      obtain ⟨TT, hTT⟩ : ∃ TT, (ls.map Lw.rows).flatten.length = TT := ⟨_, rfl⟩
      have HP : Hid (ls.length = j ∧ (∀ l ∈ ls, LwOk w l ∧ Asc (fun a b => cmpR a b ks) l.rows ∧ ∀ r ∈ l.rs, r.n ≤ 1000000) ∧ hds H = heads (ls.map Lw.rows) ∧ ([] : List Rw).map (·.l) ++ sortL ks (ls.map Lw.rows).flatten = SS ∧ 0 + (ls.map Lw.rows).flatten.length = TT ∧ q ≤ 16 + 4 * 0) := Lib.hid ⟨HN.out.1, fun l hl => ⟨HOK.out l hl, HN.out.2.2.1 l hl, HN.out.2.1 l hl⟩, by rw [hH, HHD.out], by rw [hSS]; simp, by omega, by omega⟩
      have HTT : Hid (TT ≤ 100000) := Lib.hid (by rw [← hTT]; exact HN.out.2.2.2)
      have HSS := Lib.hid hSS
      clear hSS hTT
      have h4 := G.h4
      have HFF := Lib.hid F
      clear G hH hq bN hm hwb hml L HNW HHD HN HOK F hlc
      go_wp2_with (first | (at_make; refine Stop.un ?_) | (at_builtin; refine Stop.un ?_))
      go_loopw [12] (fun vo wr => ∃ (N : Nat) (ab : Option Addr) (cb : Nat) (cur : List Lw) (rs H : List Rw) (q : Nat) (S : List Nat) (v : Nat), N ≤ TT ∧ vo = .slice ab N cb ∧ MgM w wN wT tr a j c ks h ab N cb cur rs H q S v wr ∧ Hid (cur.length = j ∧ (∀ l ∈ cur, LwOk w l ∧ Asc (fun a b => cmpR a b ks) l.rows ∧ ∀ r ∈ l.rs, r.n ≤ 1000000) ∧ hds H = heads (cur.map Lw.rows) ∧ rs.map (·.l) ++ sortL ks (cur.map Lw.rows).flatten = SS ∧ N + (cur.map Lw.rows).flatten.length = TT ∧ q ≤ 16 + 4 * N)) (fun v _ => TT - lenOf v)
      case atStart => exact ⟨0, none, 0, ls, [], H, q, S, v, Nat.zero_le _, rfl, M, HP⟩
      case round =>
        clear M HP
        obtain ⟨N, ab, cb, cur, rs, H, q, S, v, hN, rfl, M, HP⟩ := hrel
        have HNX := Lib.hid (next_any tr H ks q _ wr h S v M.G)
        cases hnx : nxt ks (hds H) with
        | none =>
          rw [hnx] at HNX
          have hfl := merge_done ks (cur.map Lw.rows) (by rw [← HP.out.2.2.1]; exact hnx)
          have HRES : Hid (rs.map (·.l) = SS) := Lib.hid (by
            have h1 := HP.out.2.2.2.1
            rw [hfl] at h1
            rw [← h1]
            show rs.map (·.l) = rs.map (·.l) ++ []
            simp)
          clear hnx hfl
          go_wp2_with (first | (at_make; refine Stop.un ?_) | (at_builtin; refine Stop.un ?_))
          refine HNX.out.mono ?_
          rintro e w2 ⟨rfl, b2⟩
          have M2 := M.below b2
          clear HNX M b2
          unfold nextV
          go_wp2_with (first | (at_make; refine Stop.un ?_) | (at_builtin; refine Stop.un ?_))
          have hok : ∀ r ∈ rs, RowOk w2 r := fun r hr => (M2.rows r hr).1
          exact bodyPost_ret (v := .tuple #[.slice ab N cb, .int .i64 0]) (by simp [results, Try.results16, go_sem]) rfl ⟨ab, N, cb, rs, rfl, M2.O, hok, HRES.out.trans HSS.out.symm⟩
        | some i =>
          rw [hnx] at HNX
          obtain ⟨x, tl, hxi, hso⟩ := merge_first ks (cur.map Lw.rows) (fun l hl => by
            obtain ⟨y, hy, rfl⟩ := List.mem_map.1 hl
            exact (HP.out.2.1 y hy).2.1) i (by rw [← HP.out.2.2.1]; exact hnx)
          have hij : i < cur.length := by
            have := (List.getElem?_eq_some_iff.1 hxi).1
            simpa using this
          have hij2 : i < j := by rw [← HP.out.1]; exact hij
          rw [List.getElem?_map, List.getElem?_eq_getElem hij] at hxi
          have hrw : cur[i].rows = x :: tl := Option.some.inj hxi
          have HCUR := Lib.hid (HP.out.2.1 cur[i] (List.getElem_mem _))
          have HCI : Hid (cur[i]? = some cur[i]) := Lib.hid (List.getElem?_eq_getElem hij)
          have csL := Own.cs M.L
          obtain ⟨_, gr, hga, hgr1, _⟩ := owns_at M.L.1 (show 0 < j by omega)
          subst hga
          have x0 : wr.cell? ⟨gr, i, none⟩ = some (.slice cur[i].a cur[i].n cur[i].cap) := by
            have := csL.at (b := gr) (o := 0) (j := i) (u := .slice cur[i].a cur[i].n cur[i].cap) (by simp [lwcells, hij, Lw.sl])
            rwa [Nat.zero_add] at this
          generalize cur[i] = l at x0 hrw HCUR HCI
          have hln : 0 < l.n := by
            have h1 := HCUR.out.1.len
            have h2 := congrArg List.length hrw
            simp [Lw.rows] at h2
            omega
          have hlc : l.n ≤ l.cap := HCUR.out.1.le
          have hlm : l.cap ≤ 9223372036854775807 := HCUR.out.1.max
          have HNXT := Lib.hid hnx
          have HSO := Lib.hid (And.intro hrw hso)
          have HNT : Hid (N + 1 ≤ TT) := Lib.hid (by
            have h1 := HP.out.2.2.2.2.1
            have h2 : ((x :: tl).length) ≤ (cur.map Lw.rows).flatten.length := by
              rw [← hrw]
              have h3 : l.rows ∈ cur.map Lw.rows := List.mem_map.2 ⟨l, List.mem_of_getElem? HCI.out, rfl⟩
              exact (List.sublist_flatten_of_mem h3).length_le
            simp only [List.length_cons] at h2
            omega)
          have hN1 := HNT.out
          have hT1 := HTT.out
          clear hnx hso hrw csL hxi hgr1
          go_wp2_with (first | (at_make; refine Stop.un ?_) | (at_builtin; refine Stop.un ?_))
          refine HNX.out.mono ?_
          rintro e w2 ⟨rfl, b2⟩
          replace M := M.below b2
          replace x0 := Ext.cell b2 x0
          have xl := lt_cell x0
          have HF := Lib.hid (fun W (b : Below w.heap.size w W) => first_any l W (HCUR.out.1.mono b))
          have H1 := Lib.hid (HF.out w2 (Own.below M.L))
          clear HNX b2
          unfold nextV
          go_wp2_with (first | (at_make; refine Stop.un ?_) | (at_builtin; refine Stop.un ?_))
          refine H1.out.mono ?_
          rintro e w3 ⟨r, rfl, hd3, ro3, b3, hx3⟩
          replace M := M.below b3
          replace x0 := Ext.cell b3 x0
          have xl := lt_cell x0
          have hrn3 : r.n ≤ 1000000 := by
            rcases hx3 with h5 | ⟨y, hy, rfl⟩
            · omega
            · exact HCUR.out.2.2 _ hy
          have H2 := Lib.hid (lown_any r w3 ro3 hrn3)
          have HD3 := Lib.hid hd3
          clear H1 hd3 ro3 b3 hx3 hrn3
          go_wp2_with (first | (at_make; refine Stop.un ?_) | (at_builtin; refine Stop.un ?_))
          refine H2.out.mono ?_
          rintro e w4 ⟨r', rfl, hd4, ro4, b4, rb4, hn4, -⟩
          have hOl := Own.lt M.O
          have hsz4 := M.sz
          replace M := M.below b4
          replace x0 := Ext.cell b4 x0
          have HRB : Hid (∀ y, r'.a = some y → wT.heap.size ≤ y.block ∧ y.block < w4.heap.size ∧ (Value.slice ab N cb).ownBlock ≠ some y.block) := Lib.hid (fun y hy => by
            have h1 := rb4 y hy
            exact ⟨by omega, h1.2, fun e => by have := hOl _ e; omega⟩)
          have HD4 : Hid (hd r' = l.fst) := Lib.hid (by rw [hd4, HD3.out])
          clear H2 hd4 b4 rb4 hn4 hOl hsz4 HD3
          go_wp2_with (first | (at_make; refine Stop.un ?_) | (at_builtin; refine Stop.un ?_))
          refine Stop.mk (app_rw1 (r := r') w _ _ rfl rfl M.O rfl rfl (by omega) ?_)
          intro a5 c5 w5 O5 g5 k5
          have M5 := M.push HFF.out ro4 HRB.out O5 g5 k5
          have f5 := M5.L.1.frozenAt i
          have x5 : w5.cell? ⟨gr, i, none⟩ = some (.slice l.a l.n l.cap) := by
            have := (Own.cs M5.L).at (b := gr) (o := 0) (j := i) (u := .slice l.a l.n l.cap) (by simp [lwcells, HCI.out, Lw.sl])
            rwa [Nat.zero_add] at this
          have xl5 := lt_cell x5
          have hlc6 := owns_le M5.L.1
          have hlm6 : c ≤ 9223372036854775807 := owns_max M5.L.1
          have cs5 := HCUR.out.1.tab.cs.mono (Own.below M5.L) (Nat.le_refl _)
          clear M x0 xl O5 g5 k5 ro4 HRB HF
          go_wp2_with (first | (at_make; refine Stop.un ?_) | (at_builtin; refine Stop.un ?_) | (with_reducible refine Stop.slice ?_))
          refine Stop.mk (wpList_cutR l.a l.n l.cap 1 rfl rfl rfl (by omega) hlc cs5 HCUR.out.1.len ?_)
          intro a7 h7
          obtain ⟨l', hl'⟩ : ∃ l' : Lw, l' = ⟨a7, l.n - 1, l.cap - 1, l.rs.drop 1⟩ := ⟨_, rfl⟩
          have HLT : Hid (LwOk w l' ∧ l'.rs = l.rs.drop 1) := Lib.hid (by
            rw [hl']
            exact ⟨⟨⟨h7 w HCUR.out.1.tab.cs, fun r hr => HCUR.out.1.tab.ok r (List.mem_of_mem_drop hr)⟩, by simp [HCUR.out.1.len], by simp only; omega, by simp only; unfold maxLen; omega⟩, rfl⟩)
          rw [show a7 = l'.a by rw [hl'], show l.n - 1 = l'.n by rw [hl'], show l.cap - 1 = l'.cap by rw [hl']]
          have M6 := M5.cut HFF.out rfl i l'
          have x6 : (w5.setCell ⟨gr, i, none⟩ (.slice l'.a l'.n l'.cap)).cell? ⟨gr, i, none⟩ = some (.slice l'.a l'.n l'.cap) := by
            have := (Own.cs M6.L).at (b := gr) (o := 0) (j := i) (u := .slice l'.a l'.n l'.cap) (by simp [lwcells, hij, Lw.sl])
            rwa [Nat.zero_add] at this
          have xl6 := lt_cell x6
          have H7 := Lib.hid (first_any l' _ (HLT.out.1.mono (Own.below M6.L)))
          clear hl' h7 cs5 M5
          go_wp2_with (first | (at_make; refine Stop.un ?_) | (at_builtin; refine Stop.un ?_))
          generalize w5.setCell ⟨gr, i, none⟩ (.slice l'.a l'.n l'.cap) = w6 at M6 x6 xl6 H7 ⊢
          refine H7.out.mono ?_
          rintro e w7 ⟨r7, rfl, hd7, ro7, b7, hx7⟩
          have M7 := M6.below b7
          have hrn7 : r7.n ≤ 1000000 := by
            rcases hx7 with h5 | ⟨y, hy, rfl⟩
            · omega
            · rw [HLT.out.2] at hy
              exact HCUR.out.2.2 _ (List.mem_of_mem_drop hy)
          have H8 := Lib.hid (put_some tr H ks q _ w7 h S v M7.G r7 i HNXT.out ro7 hrn7 (by have := HP.out.2.2.2.2.2; omega))
          have HD7 := Lib.hid hd7
          clear M6 x6 xl6 H7 hd7 ro7 b7 hx7 hrn7 f5 x5 xl5
          go_wp2_with (first | (at_make; refine Stop.un ?_) | (at_builtin; refine Stop.un ?_))
          refine H8.out.mono ?_
          rintro e w8 ⟨rfl, H', q', S', v', G', hH', hq', o8⟩
          have M8 := M7.put HFF.out o8 G'
          have HP8 : Hid ((cur.set i l').length = j ∧ (∀ l ∈ cur.set i l', LwOk w l ∧ Asc (fun a b => cmpR a b ks) l.rows ∧ ∀ r ∈ l.rs, r.n ≤ 1000000) ∧ hds H' = heads ((cur.set i l').map Lw.rows) ∧ (rs ++ [r']).map (·.l) ++ sortL ks ((cur.set i l').map Lw.rows).flatten = SS ∧ N + 1 + ((cur.set i l').map Lw.rows).flatten.length = TT ∧ q' ≤ 16 + 4 * (N + 1)) := Lib.hid (by
            obtain ⟨p1, p2, p3, p4, p5, p6⟩ := HP.out
            obtain ⟨s1, s2⟩ := HSO.out
            have htl : l'.rows = tl := by
              unfold Lw.rows at s1 ⊢
              rw [HLT.out.2, List.map_drop, s1]
              rfl
            have hset : (cur.set i l').map Lw.rows = (cur.map Lw.rows).set i tl := by rw [List.map_set, htl]
            have hrx : r'.l = x := by
              have h1 := HD4.out
              unfold Lw.fst at h1
              rw [s1] at h1
              unfold hd at h1
              cases e : r'.a with
              | none => rw [e] at h1; simp at h1
              | some _ => rw [e] at h1; simpa using h1
            have hlen := congrArg List.length s2
            unfold sortL at hlen
            rw [sortB_length, List.length_cons, sortB_length] at hlen
            refine ⟨by rw [List.length_set]; exact p1, fun y hy => ?_, ?_, ?_, ?_, by omega⟩
            · rcases List.mem_or_eq_of_mem_set hy with h1 | h1
              · exact p2 y h1
              · rw [h1]
                refine ⟨HLT.out.1, ?_, fun r hr => ?_⟩
                · rw [htl]
                  have := HCUR.out.2.1
                  rw [s1] at this
                  exact (List.pairwise_cons.1 this).2
                · rw [HLT.out.2] at hr
                  exact HCUR.out.2.2 r (List.mem_of_mem_drop hr)
            · rw [hH', p3, HD7.out]
              unfold heads Lw.fst
              rw [List.map_set, List.map_set]
            · rw [hset, List.map_append, ← p4, s2]
              simp [hrx]
            · rw [hset]; omega)
          clear M7 H8 G' hH' hq' o8 HD7 HP HSO HD4 HLT HCUR HCI HNXT
          go_wp2_with (first | (at_make; refine Stop.un ?_) | (at_builtin; refine Stop.un ?_))
          go_roundw
          case rel => exact ⟨N + 1, a5, c5, _, _, H', q', S', v', hN1, rfl, M8, HP8⟩
          case measure => simp [lenOf]; omega
end Go.Proofs.Ytfhlbiddhgkcpaa
