/- New: the tree of lists' first rows. -/
import Derived.Test.YtfhlbiddhgkcpaaLosW
set_option linter.unusedVariables false
set_option linter.unusedSimpArgs false
namespace Go.Proofs.Ytfhlbiddhgkcpaa
open Go.RowKit
theorem Try.infoI64 : (Try.prog.info? 3).map (fun i => (i.zero, i.size, i.bytes)) = some (some (.int .i64 0), 1, 8) := by kernel_rfl
/-- One cell is kept. -/
def KC (p : Addr) (w x : World) : Prop := ∀ v, w.cell? p = some v → x.cell? p = some v
theorem Keeps.kc (p : Addr) : Keeps (KC p) := ⟨fun _ _ h => h, fun _ _ _ h k v hv => k v (h v hv)⟩
theorem mix_startK {P : Program} {id : Nat} {Q : Exit → Act → World → Prop} {a : Act} {w : World} {l : List Oper} (p : Addr) (n : Nat) (hn : l.length = n) (hm : P.follows .mixedOrders = true)
    (h : ∀ x, Below w.heap.size w x → wpAnyM P .any l.toArray (KC p) (fun a x => Q .normal a x) n (Array.replicate n false) x a) : (Code.region id l.toArray true).wp P Q a w :=
  mix_start (KC p) (Keeps.kc p) n hn hm (h w.drew (show Ext w w.drew from (Below.refl _ _).drew))
theorem new_long (ao : Option Addr) (n cap : Nat) (ak : Option Addr) (p ck : Nat) (w : World) (hn : 16 < n) (hnc : n ≤ cap) (hcap : cap ≤ maxLen) :
    Calls Try.prog 10 #[.slice ao n cap, .slice ak p ck] w (fun e w' => e = .returned (.tuple #[.pointer none, .int .i64 3]) ∧ Below w.heap.size w w') := by
  unfold maxLen at hcap
  go_enter Try.func10, Try.ntmps10
  go_wp2_with (first | (at_make; refine Stop.un ?_) | (at_builtin; refine Stop.un ?_))
  exact bodyPost_ret (v := .tuple #[.pointer none, .int .i64 3]) (by simp [results, Try.results10, go_sem]) rfl ⟨rfl, Below.refl _ _⟩
theorem Nw.tre {w0 w x : World} {g : Nat} {ah : Option Addr} {j ch : Nat} {H : List Rw} {a : Option Addr} {p c : Nat} {ks : List Ky} {S : List Nat} (N : Nw w0 w g ah j ch H a p c ks) (b : Below w.heap.size w x) (zs : At x w.heap.size (S.map (fun k : Nat => Value.int .i64 k)).toArray 3) (hp : ks.length = p) (hpc : p ≤ c) (hc : c ≤ maxLen) :
    Tre ⟨g, w.heap.size, ah, ch, a, p, c⟩ H ks S 0 (fun k => k < w0.heap.size) (x.setCell ⟨g, 2, none⟩ (.slice (some ⟨w.heap.size, 0, none⟩) S.length S.length)) ∧ ∀ k, Tr.mut ⟨g, w.heap.size, ah, ch, a, p, c⟩ k → w0.heap.size ≤ k := by
  have hw := Own.le N.O
  have hg := N.z.lt
  have hl : H.length = j := OwnRs.length N.O
  have Nx := N.below b
  have o : Oth (fun k => k = g) x (x.setCell ⟨g, 2, none⟩ (.slice (some ⟨w.heap.size, 0, none⟩) S.length S.length)) := (Oth.refl _ x).set _ _ (.inl rfl)
  have hm : ∀ k, Tr.mut ⟨g, w.heap.size, ah, ch, a, p, c⟩ k → k = g ∨ k = w.heap.size ∨ (Value.slice ah j ch).ownBlock = some k := fun k hk => by
    rcases hk with h1 | h1 | ⟨y, h1, h2⟩
    · exact .inl h1
    · exact .inr (.inl h1)
    · have h3 : ah = some y := h1
      exact .inr (.inr (by rw [h3]; simp [Value.ownBlock]; exact h2))
  have hge : ∀ k, Tr.mut ⟨g, w.heap.size, ah, ch, a, p, c⟩ k → w0.heap.size ≤ k := fun k hk => by
    rcases hm k hk with h1 | h1 | h1
    · rw [h1]; exact N.ge
    · omega
    · exact Own.ge N.O k h1
  refine ⟨⟨?_, o.at zs (show ¬ (w.heap.size = g) by omega), ?_, fun r hr => ⟨o.row (Nx.rows r hr).1 (fun y hy => ((Nx.rows r hr).2 y hy).2.2.1), fun y hy => ⟨Nat.lt_of_lt_of_le ((Nx.rows r hr).2 y hy).2.1 o.size, fun hk => ?_, fun hk => ?_⟩⟩, o.cs Nx.kc (fun _ y hy => (N.ka y hy).2.1), hp, hpc, hc, fun _ y hy => ⟨fun hk => ?_, fun hk => ?_⟩, ⟨by simp only; omega, fun y hy => ?_⟩, fun k hk => ?_, fun k hk => Nat.lt_of_lt_of_le hk (Nat.le_trans (Nat.le_trans hw b.size) o.size)⟩, hge⟩
  · have := Nx.z.set 2 (.slice (some ⟨w.heap.size, 0, none⟩) S.length S.length)
    rw [hl]
    exact this
  · rw [hl]
    have h1 := o.owns Nx.O.1 (fun k hk => (N.ga k hk).1)
    refine ⟨h1.1, ?_⟩
    rcases h1.2 with h2 | ⟨g', cap, cur, h2, h3, h4⟩
    · exact .inl h2
    · exact .inr ⟨g', cap, cur, h2, Nat.zero_le _, h4⟩
  · have h1 := (N.rows r hr).2 y hy
    rcases hm _ hk with h2 | h2 | h2
    · exact h1.2.2.1 h2
    · omega
    · exact h1.2.2.2 h2
  · have h1 := (N.rows r hr).2 y hy
    have : y.block < w0.heap.size := hk
    omega
  · have h1 := N.ka y hy
    rcases hm _ hk with h2 | h2 | h2
    · exact h1.2.1 h2
    · omega
    · exact (N.ga _ h2).2 y hy rfl
  · have h1 := N.ka y hy
    have : y.block < w0.heap.size := hk
    omega
  · have h3 : ah = some y := hy
    have h1 : (Value.slice ah j ch).ownBlock = some y.block := by rw [h3]; rfl
    have h2 := Own.lt N.O _ h1
    exact ⟨(N.ga _ h1).1, by simp only; omega⟩
  · have := hge k hk
    intro h2
    have : k < w0.heap.size := h2
    omega
set_option maxRecDepth 100000 in
set_option maxHeartbeats 8000000 in
theorem new_any (ao : Option Addr) (n cap : Nat) (rows : List Rw) (ak : Option Addr) (p ck : Nat) (ks : List Ky) (w : World) (t : Tab w ao rows) (hn : rows.length = n) (hnc : n ≤ cap) (hcap : cap ≤ maxLen) (hn2 : n ≤ 16) (hr : ∀ r ∈ rows, r.n ≤ 1000000)
    (hk : Cs w ak (kcells ks)) (hp : ks.length = p) (hlp : p ≤ ck) (hcm : ck ≤ maxLen) (hp2 : p ≤ 1000000) :
    Calls Try.prog 10 #[.slice ao n cap, .slice ak p ck] w (fun e w' => ∃ (tr : Tr) (H : List Rw) (q h : Nat) (S : List Nat) (v : Nat), e = .returned (.tuple #[.pointer (some ⟨tr.g, 0, none⟩), .int .i64 0]) ∧ Gd tr H ks q (fun k => k < w.heap.size) w' h S v ∧ hds H = hds rows ∧ q ≤ n - 1 ∧ (h = 0 ∨ 2 ^ (h - 1) < n) ∧ Below w.heap.size w w' ∧ (∀ k, tr.mut k → w.heap.size ≤ k) ∧ n ≤ 2 ^ h) := by
  unfold maxLen at hcap
  have HN := Lib.hid (And.intro hn (And.intro hr hp))
  have HKC := Lib.hid (kclone_any ak p ck ks w hk hp hlp hcm hp2)
  clear hn hr hp hk
  go_enter Try.func10, Try.ntmps10
  go_wp2_with (first | (at_make; refine Stop.un ?_) | (at_builtin; refine Stop.un ?_))
  refine HKC.out.mono ?_
  rintro e w1 ⟨a, c, rfl, OK⟩
  have N0 : Nw w (w1.alloc (.cells #[.slice none 0 0, .slice a p c, .slice none 0 0, .int .i64 0] 54)) w1.heap.size none 0 0 [] a p c ks := by
    refine ⟨At.new _ _ _, Own.nil _ _ ((Own.below OK).alloc (Own.le OK) _), Own.le OK, (fun k hk => by simp [Value.ownBlock] at hk), (Own.cs OK).alloc _, fun x hx => ?_, (fun r hr => by cases hr)⟩
    have h1 := Own.ge OK x.block (by rw [hx]; rfl)
    have h2 := Own.lt OK x.block (by rw [hx]; rfl)
    exact ⟨h1, by omega, by simp; omega⟩
  have hkc := owns_le OK.1
  have hkm := owns_max OK.1
  have HKM := Lib.hid (And.intro hkc hkm)
  clear OK HKC hkc hkm
  go_wp2_with (first | (at_make; refine Stop.un ?_) | (at_builtin; refine Stop.un ?_))
  generalize w1.alloc (.cells #[.slice none 0 0, .slice a p c, .slice none 0 0, .int .i64 0] 54) = w2 at N0 ⊢
  generalize w1.heap.size = g at N0 ⊢
  go_loopw [19] (fun i wr => ∃ (j : Nat) (ah : Option Addr) (ch : Nat) (H : List Rw), j ≤ n ∧ i = .int .i64 (j : Int) ∧ Nw w wr g ah j ch H a p c ks ∧ Hid (hds H = hds (rows.take j))) (fun i _ => n - (intOf i).toNat)
  case atStart => exact ⟨0, none, 0, [], Nat.zero_le _, rfl, N0, Lib.hid rfl⟩
  case round =>
    clear N0
    obtain ⟨j, ah, ch, H, hj, rfl, N, HH⟩ := hrel
    by_cases hlt : j < n
    · have hjl : j < rows.length := by have := HN.out.1; omega
      have t2 := t.mono (Own.below N.O)
      obtain ⟨b, o, rfl⟩ := t2.cs.addr (by rw [rwcells_length]; omega)
      have x0 := t2.at hjl
      have rk := t2.ok rows[j] (List.getElem_mem _)
      have hrn := HN.out.2.1 rows[j] (List.getElem_mem _)
      have HT : Hid (rows.take (j + 1) = rows.take j ++ [rows[j]]) := Lib.hid (List.take_succ_eq_append_getElem hjl)
      generalize rows[j] = r at x0 rk hrn HT
      have HO := Lib.hid (fun W ro => lown_any r W ro hrn)
      clear hjl t2 hrn
      go_upto_region 7 with fail
      clear x0
      refine mix_startN 12 rfl (by kernel_rfl) ?_
      intro xq hxq
      replace N := N.below hxq
      replace rk := rk.mono hxq
      clear hxq
      refine mix_quiet Keeps.any 0 rfl (by kernel_rfl) rfl ?_
      intro ι U hne hU
      go_big_quiet_op
      clear hU hne U ι
      show wpAnyM _ _ _ _ _ _ _ _ _
      refine mix_quiet Keeps.any 1 rfl (by kernel_rfl) rfl ?_
      intro ι U hne hU
      go_big_quiet_op
      clear hU hne U ι
      show wpAnyM _ _ _ _ _ _ _ _ _
      refine mix_quiet Keeps.any 2 rfl (by kernel_rfl) rfl ?_
      intro ι U hne hU
      go_big_quiet_op
      clear hU hne U ι
      show wpAnyM _ _ _ _ _ _ _ _ _
      refine mix_quiet Keeps.any 3 rfl (by kernel_rfl) rfl ?_
      intro ι U hne hU
      go_big_quiet_op
      clear hU hne U ι
      show wpAnyM _ _ _ _ _ _ _ _ _
      refine mix_quiet Keeps.any 5 rfl (by kernel_rfl) rfl ?_
      intro ι U hne hU
      go_big_quiet_op
      clear hU hne U ι
      show wpAnyM _ _ _ _ _ _ _ _ _
      refine mix_two 4 6 rfl rfl (by kernel_rfl) rfl rfl ?_ ?_
      ·
        have y0 := (N.z).cell 0 rfl
        have yl := (N.z).lt
        go_wp2_with (first | (at_make; refine Stop.un ?_) | (at_builtin; refine Stop.un ?_))
        refine MixPost.mk (True.intro : AnyW _ _) ?_
        clear y0 yl
        refine mix_any 6 rfl (by kernel_rfl) rfl ?_
        go_wp2_with (first | (at_make; refine Stop.un ?_) | (at_builtin; refine Stop.un ?_))
        refine (HO.out _ rk).mono ?_
        rintro e wo ⟨r', rfl, hd', ro', bo, rb', -, -⟩
        go_wp2_with (first | (at_make; refine Stop.un ?_) | (at_builtin; refine Stop.un ?_))
        refine MixPost.mk (True.intro : AnyW _ _) ?_
        have hl9 := Own.le N.O
        have hlO := Own.lt N.O
        have gl9 := N.z.lt
        replace N := N.below bo
        have HRB : Hid (∀ y, r'.a = some y → w.heap.size ≤ y.block ∧ y.block < wo.heap.size ∧ y.block ≠ g ∧ (Value.slice ah j ch).ownBlock ≠ some y.block) := Lib.hid (fun y hy => by
          have h1 := rb' y hy
          exact ⟨by omega, h1.2, by omega, fun e => by have := hlO _ e; omega⟩)
        have HHD := Lib.hid hd'
        clear hd' rb' rk bo HO hlO hl9 gl9
        refine mix_any 7 rfl (by kernel_rfl) rfl ?_
        go_wp2_with (first | (at_make; refine Stop.un ?_) | (at_builtin; refine Stop.un ?_))
        refine MixPost.mk (True.intro : AnyW _ _) ?_
        refine mix_any 8 rfl (by kernel_rfl) rfl ?_
        go_wp2_with (first | (at_make; refine Stop.un ?_) | (at_builtin; refine Stop.un ?_))
        refine Stop.mk (app_rw1 (r := r') w _ _ rfl rfl N.O rfl rfl (by omega) ?_)
        intro a9 c9 w9 O9 g9 k9
        go_wp2_with (first | (at_make; refine Stop.un ?_) | (at_builtin; refine Stop.un ?_))
        refine MixPost.mk (True.intro : AnyW _ _) ?_
        refine mix_quiet Keeps.any 9 rfl (by kernel_rfl) rfl ?_
        intro ι U hne hU
        go_big_quiet_op
        clear hU hne U ι
        show wpAnyM _ _ _ _ _ _ _ _ _
        refine mix_quiet Keeps.any 10 rfl (by kernel_rfl) rfl ?_
        intro ι U hne hU
        go_big_quiet_op
        clear hU hne U ι
        show wpAnyM _ _ _ _ _ _ _ _ _
        have N9 := N.grown ro' HRB.out O9 g9 k9
        have z9 : At w9 g #[.slice ah j ch, .slice a p c, .slice none 0 0, .int .i64 0] 54 := (g9.block g N.z.lt (fun e => (N.ga g e.symm).1 rfl)).trans N.z
        have f9 := z9.free 0
        have y9 := z9.cell 0 rfl
        have gl9 := z9.lt
        have HH2 : Hid (hds (H ++ [r']) = hds (rows.take (j + 1))) := Lib.hid (by
          have h1 := HH.out
          rw [HT.out]
          unfold hds at h1 ⊢
          rw [List.map_append, List.map_append, h1]
          simp [HHD.out])
        clear N O9 g9 k9 HRB HHD HT HH ro' z9
        refine mix_any 11 rfl (by kernel_rfl) rfl ?_
        go_wp2_with (first | (at_make; refine Stop.un ?_) | (at_builtin; refine Stop.un ?_))
        refine MixPost.mk (True.intro : AnyW _ _) ?_
        clear f9 y9 gl9
        refine mix_end (by kernel_rfl) ?_
        go_wp2_with (first | (at_make; refine Stop.un ?_) | (at_builtin; refine Stop.un ?_))
        go_roundw
        case rel => exact ⟨j + 1, a9, c9, _, by omega, by go_num, N9, HH2⟩
        case measure => simp [intOf]; omega
      ·
        go_wp2_with (first | (at_make; refine Stop.un ?_) | (at_builtin; refine Stop.un ?_))
        refine (HO.out _ rk).mono ?_
        rintro e wo ⟨r', rfl, hd', ro', bo, rb', -, -⟩
        go_wp2_with (first | (at_make; refine Stop.un ?_) | (at_builtin; refine Stop.un ?_))
        refine MixPost.mk (True.intro : AnyW _ _) ?_
        have hl9 := Own.le N.O
        have hlO := Own.lt N.O
        have gl9 := N.z.lt
        replace N := N.below bo
        have HRB : Hid (∀ y, r'.a = some y → w.heap.size ≤ y.block ∧ y.block < wo.heap.size ∧ y.block ≠ g ∧ (Value.slice ah j ch).ownBlock ≠ some y.block) := Lib.hid (fun y hy => by
          have h1 := rb' y hy
          exact ⟨by omega, h1.2, by omega, fun e => by have := hlO _ e; omega⟩)
        have HHD := Lib.hid hd'
        clear hd' rb' rk bo HO hlO hl9 gl9
        refine mix_two 4 7 rfl rfl (by kernel_rfl) rfl rfl ?_ ?_
        ·
          have y0 := (N.z).cell 0 rfl
          have yl := (N.z).lt
          go_wp2_with (first | (at_make; refine Stop.un ?_) | (at_builtin; refine Stop.un ?_))
          refine MixPost.mk (True.intro : AnyW _ _) ?_
          clear y0 yl
          refine mix_any 7 rfl (by kernel_rfl) rfl ?_
          go_wp2_with (first | (at_make; refine Stop.un ?_) | (at_builtin; refine Stop.un ?_))
          refine MixPost.mk (True.intro : AnyW _ _) ?_
          refine mix_any 8 rfl (by kernel_rfl) rfl ?_
          go_wp2_with (first | (at_make; refine Stop.un ?_) | (at_builtin; refine Stop.un ?_))
          refine Stop.mk (app_rw1 (r := r') w _ _ rfl rfl N.O rfl rfl (by omega) ?_)
          intro a9 c9 w9 O9 g9 k9
          go_wp2_with (first | (at_make; refine Stop.un ?_) | (at_builtin; refine Stop.un ?_))
          refine MixPost.mk (True.intro : AnyW _ _) ?_
          refine mix_quiet Keeps.any 9 rfl (by kernel_rfl) rfl ?_
          intro ι U hne hU
          go_big_quiet_op
          clear hU hne U ι
          show wpAnyM _ _ _ _ _ _ _ _ _
          refine mix_quiet Keeps.any 10 rfl (by kernel_rfl) rfl ?_
          intro ι U hne hU
          go_big_quiet_op
          clear hU hne U ι
          show wpAnyM _ _ _ _ _ _ _ _ _
          have N9 := N.grown ro' HRB.out O9 g9 k9
          have z9 : At w9 g #[.slice ah j ch, .slice a p c, .slice none 0 0, .int .i64 0] 54 := (g9.block g N.z.lt (fun e => (N.ga g e.symm).1 rfl)).trans N.z
          have f9 := z9.free 0
          have y9 := z9.cell 0 rfl
          have gl9 := z9.lt
          have HH2 : Hid (hds (H ++ [r']) = hds (rows.take (j + 1))) := Lib.hid (by
            have h1 := HH.out
            rw [HT.out]
            unfold hds at h1 ⊢
            rw [List.map_append, List.map_append, h1]
            simp [HHD.out])
          clear N O9 g9 k9 HRB HHD HT HH ro' z9
          refine mix_any 11 rfl (by kernel_rfl) rfl ?_
          go_wp2_with (first | (at_make; refine Stop.un ?_) | (at_builtin; refine Stop.un ?_))
          refine MixPost.mk (True.intro : AnyW _ _) ?_
          clear f9 y9 gl9
          refine mix_end (by kernel_rfl) ?_
          go_wp2_with (first | (at_make; refine Stop.un ?_) | (at_builtin; refine Stop.un ?_))
          go_roundw
          case rel => exact ⟨j + 1, a9, c9, _, by omega, by go_num, N9, HH2⟩
          case measure => simp [intOf]; omega
        ·
          go_wp2_with (first | (at_make; refine Stop.un ?_) | (at_builtin; refine Stop.un ?_))
          refine MixPost.mk (True.intro : AnyW _ _) ?_
          refine mix_any 4 rfl (by kernel_rfl) rfl ?_
          have y0 := (N.z.alloc (.cells #[.slice r'.a r'.n r'.cap] 26)).cell 0 rfl
          have yl := (N.z.alloc (.cells #[.slice r'.a r'.n r'.cap] 26)).lt
          go_wp2_with (first | (at_make; refine Stop.un ?_) | (at_builtin; refine Stop.un ?_))
          refine MixPost.mk (True.intro : AnyW _ _) ?_
          clear y0 yl
          refine mix_any 8 rfl (by kernel_rfl) rfl ?_
          go_wp2_with (first | (at_make; refine Stop.un ?_) | (at_builtin; refine Stop.un ?_))
          refine Stop.mk (app_rw1 (r := r') w _ _ rfl rfl N.O rfl rfl (by omega) ?_)
          intro a9 c9 w9 O9 g9 k9
          go_wp2_with (first | (at_make; refine Stop.un ?_) | (at_builtin; refine Stop.un ?_))
          refine MixPost.mk (True.intro : AnyW _ _) ?_
          refine mix_quiet Keeps.any 9 rfl (by kernel_rfl) rfl ?_
          intro ι U hne hU
          go_big_quiet_op
          clear hU hne U ι
          show wpAnyM _ _ _ _ _ _ _ _ _
          refine mix_quiet Keeps.any 10 rfl (by kernel_rfl) rfl ?_
          intro ι U hne hU
          go_big_quiet_op
          clear hU hne U ι
          show wpAnyM _ _ _ _ _ _ _ _ _
          have N9 := N.grown ro' HRB.out O9 g9 k9
          have z9 : At w9 g #[.slice ah j ch, .slice a p c, .slice none 0 0, .int .i64 0] 54 := (g9.block g N.z.lt (fun e => (N.ga g e.symm).1 rfl)).trans N.z
          have f9 := z9.free 0
          have y9 := z9.cell 0 rfl
          have gl9 := z9.lt
          have HH2 : Hid (hds (H ++ [r']) = hds (rows.take (j + 1))) := Lib.hid (by
            have h1 := HH.out
            rw [HT.out]
            unfold hds at h1 ⊢
            rw [List.map_append, List.map_append, h1]
            simp [HHD.out])
          clear N O9 g9 k9 HRB HHD HT HH ro' z9
          refine mix_any 11 rfl (by kernel_rfl) rfl ?_
          go_wp2_with (first | (at_make; refine Stop.un ?_) | (at_builtin; refine Stop.un ?_))
          refine MixPost.mk (True.intro : AnyW _ _) ?_
          clear f9 y9 gl9
          refine mix_end (by kernel_rfl) ?_
          go_wp2_with (first | (at_make; refine Stop.un ?_) | (at_builtin; refine Stop.un ?_))
          go_roundw
          case rel => exact ⟨j + 1, a9, c9, _, by omega, by go_num, N9, HH2⟩
          case measure => simp [intOf]; omega
    · obtain rfl : j = n := by omega
      have HH2 : Hid (hds H = hds rows) := Lib.hid (by rw [HH.out, List.take_of_length_le (by have := HN.out.1; omega)])
      have hHl : H.length = j := OwnRs.length N.O
      have HHL := Lib.hid hHl
      obtain ⟨wx, hwx⟩ : ∃ wx, wx = wr := ⟨_, rfl⟩
      subst hwx
      have NX := Lib.hid N
      have xl := N.z.lt
      clear HH hHl t hlt hj
      go_wp2_with (first | (at_make; refine Stop.un ?_) | (at_builtin; refine Stop.un ?_))
      go_loopw [9] (fun v wr => ∃ h : Nat, v = .int .i64 ((2 ^ h : Nat) : Int) ∧ h ≤ 4 ∧ wr = wx ∧ Hid (h = 0 ∨ 2 ^ (h - 1) < j)) (fun v _ => 16 - (intOf v).toNat)
      case atStart => exact ⟨0, by simp, by omega, by first | rfl | trivial, Lib.hid (.inl rfl)⟩
      case round =>
        obtain ⟨h, rfl, h4, rfl, HQ⟩ := hrel
        have hpw := pow4 h4
        have hps : 2 ^ (h + 1) = 2 ^ h * 2 := Nat.pow_succ 2 h
        have HP := Lib.hid hps
        have hp1 : 0 < 2 ^ h := Nat.pow_pos (by omega)
        clear hps
        obtain ⟨m, hm⟩ : ∃ m, 2 ^ h = m := ⟨_, rfl⟩
        have HM := Lib.hid hm
        rw [hm] at hpw hp1 ⊢
        clear hm
        by_cases hlt : m < j
        · have hh4 : h + 1 ≤ 4 := by
            rcases Nat.lt_or_ge h 4 with h5 | h5
            · omega
            · exfalso
              have h6 : h = 4 := by omega
              have h7 := HM.out
              rw [h6] at h7
              omega
          have HQ2 : Hid (h + 1 = 0 ∨ 2 ^ (h + 1 - 1) < j) := Lib.hid (.inr (by rw [Nat.add_sub_cancel, HM.out]; exact hlt))
          go_wp2_with (first | (at_make; refine Stop.un ?_) | (at_builtin; refine Stop.un ?_))
          go_roundw
          case rel => exact ⟨h + 1, by rw [HP.out, HM.out]; go_num, hh4, by first | rfl | trivial, HQ2⟩
          case measure => simp [intOf]; omega
        · have hjm : j ≤ m := by omega
          clear hlt
          go_wp2_with (first | (at_make; refine Stop.un ?_) | (at_builtin; refine Stop.un ?_))
          obtain ⟨i0, hi, hz0, hz1, hz2⟩ := info_parts Try.infoI64
          refine Stop.mk (wpList_make_full _ rfl _ _ 43 rfl w.heap.size 3 i0 (.int .i64 0) 1 Try.underlying43 hi hz0 hz1 _ _ _ _ m rfl rfl rfl rfl (by rw [hz2]; omega) (by unfold maxLen; omega) (Own.le N.O) ?_)
          intro w7 o7 g7
          have b7 : Below wr.heap.size wr w7 := (Below.refl _ _).grown g7 (Nat.le_refl _) (fun _ h => by cases h)
          have k7 : At w7 wr.heap.size (madeCells (Value.int .i64 0).cells (m * 1)).toList.toArray 3 := own_at15 o7
          rw [show (madeCells (Value.int .i64 0).cells (m * 1)).toList = (List.replicate m 0).map (fun k : Nat => Value.int .i64 k) from by simp [Value.cells, toList_madeCells_one]] at k7
          have hbw := (Own.below N.O).next b7
          obtain ⟨T, hge⟩ := NX.out.tre b7 k7 HN.out.2.2 HKM.out.1 HKM.out.2
          have z7 := N.z.mono b7
          have f7 := z7.free 2
          have y7 := z7.cell 2 rfl
          have gl7 := z7.lt
          have b8 := hbw.setCell (p := ⟨g, 2, none⟩) N.ge (.slice (some ⟨wr.heap.size, 0, none⟩) (List.replicate m 0).length (List.replicate m 0).length)
          have hre : (List.replicate m (0 : Nat)).length = m := List.length_replicate
          have HGE := Lib.hid hge
          clear o7 g7 hz2 hz1 hz0 hi i0 k7 hbw NX z7 N xl hge
          generalize List.replicate m (0 : Nat) = S0 at T b8 hre
          have HS0 := Lib.hid hre
          rw [hre] at T b8
          go_upto_region 13 with fail
          generalize hw8 : w7.setCell ⟨g, 2, none⟩ (.slice (some ⟨wr.heap.size, 0, none⟩) m m) = w8 at T b8 ⊢
          clear hw8 f7 y7 gl7 b7
          generalize wr.heap.size = gs at T HGE ⊢
          have hcn : cn (hds H) m h 1 ≤ H.length := by
            have := cn_le (hds H) m h 1 (by rw [HM.out]; omega)
            rw [HM.out, hds_length] at this
            omega
          have HPL := Lib.hid (fun W (T : Tre ⟨g, gs, ah, ch, a, p, c⟩ H ks S0 0 (fun k => k < w.heap.size) W) => play_any ⟨g, gs, ah, ch, a, p, c⟩ H ks (fun k => k < w.heap.size) m (by omega) (by have := HHL.out; omega) h 1 S0 0 W T HS0.out (by rw [HM.out]; omega) (by rw [HM.out]; omega) (by omega) (by have := HHL.out; omega))
          have HCN := Lib.hid hcn
          clear hcn
          refine mix_startK ⟨g, 2, none⟩ 8 rfl (by kernel_rfl) ?_
          intro xq hxq
          replace T := T.below hxq
          replace b8 := b8.next hxq
          have hbs := b8.size
          clear hxq
          have x2 : xq.cell? ⟨g, 2, none⟩ = some (.slice (some ⟨gs, 0, none⟩) m m) := by
            have := T.z.cell 2 rfl
            rw [HS0.out] at this
            exact this
          refine mix_quiet (Keeps.kc ⟨g, 2, none⟩) 0 rfl (by kernel_rfl) rfl ?_
          intro ι U hne hU
          go_big_quiet_op
          clear hU hne U ι
          show wpAnyM _ _ _ _ _ _ _ _ _
          refine mix_quiet (Keeps.kc ⟨g, 2, none⟩) 1 rfl (by kernel_rfl) rfl ?_
          intro ι U hne hU
          go_big_quiet_op
          clear hU hne U ι
          show wpAnyM _ _ _ _ _ _ _ _ _
          refine mix_quiet (Keeps.kc ⟨g, 2, none⟩) 2 rfl (by kernel_rfl) rfl ?_
          intro ι U hne hU
          go_big_quiet_op
          clear hU hne U ι
          show wpAnyM _ _ _ _ _ _ _ _ _
          refine mix_quiet (Keeps.kc ⟨g, 2, none⟩) 3 rfl (by kernel_rfl) rfl ?_
          intro ι U hne hU
          have hcw0 := fun ii => (hU ii _ x2)
          go_big_quiet_op
          clear hU hne hcw0 U ι
          show wpAnyM _ _ _ _ _ _ _ _ _
          refine mix_quiet (Keeps.kc ⟨g, 2, none⟩) 4 rfl (by kernel_rfl) rfl ?_
          intro ι U hne hU
          go_big_quiet_op
          clear hU hne U ι
          show wpAnyM _ _ _ _ _ _ _ _ _
          refine mix_any 5 rfl (by kernel_rfl) rfl ?_
          go_wp2_with (first | (at_make; refine Stop.un ?_) | (at_builtin; refine Stop.un ?_))
          refine (HPL.out _ T).mono ?_
          rintro e w9 ⟨v, S1, q1, rfl, T1, l1, hv, W1, -, Q1, N1, O1⟩
          go_wp2_with (first | (at_make; refine Stop.un ?_) | (at_builtin; refine Stop.un ?_))
          have y2 : w9.cell? ⟨g, 2, none⟩ = some (.slice (some ⟨gs, 0, none⟩) m m) := by
            have := T1.z.cell 2 rfl
            rw [l1] at this
            exact this
          refine MixPost.mk (fun u hu => by rw [x2] at hu; rw [← Option.some.inj hu]; exact y2) ?_
          have b9 := b8.trans (O1.low HGE.out hbs)
          have z2 := T1.zs
          have f2 := z2.free 0
          have hl1 : 0 < S1.length := by omega
          obtain ⟨s0, hs0⟩ : ∃ s0, S1[0]? = some s0 := ⟨_, List.getElem?_eq_getElem hl1⟩
          have c2 := z2.cell 0 (v := .int .i64 (s0 : Int)) (by simp [hs0])
          have cl2 := z2.lt
          have hne : gs ≠ g := fun e => T1.ne.1 e.symm
          have G := gd_set (h := h) T1 (by rw [HM.out]; exact l1) (by rw [HM.out, HHL.out]; exact hjm) h4 (by rw [HM.out]; exact W1)
          have b10 := b9.setCell (p := ⟨gs, 0, none⟩) (HGE.out gs (.inr (.inl rfl))) (.int .i64 (v : Int))
          have hq : q1 ≤ j - 1 := by
            have h1 := HCN.out
            rw [HHL.out] at h1
            by_cases g1 : (gt (hds H) v).isSome = true
            · rw [if_pos g1] at Q1; omega
            · rw [N1 (by simpa using g1)]; omega
          have HQQ := Lib.hid hq
          clear T T1 l1 W1 Q1 N1 O1 b8 hbs x2 y2 z2 hl1 hs0 HPL HCN hq b9
          refine mix_quiet (Keeps.kc ⟨g, 2, none⟩) 6 rfl (by kernel_rfl) rfl ?_
          intro ι U hne hU
          go_big_quiet_op
          clear hU hne U ι
          show wpAnyM _ _ _ _ _ _ _ _ _
          refine mix_any 7 rfl (by kernel_rfl) rfl ?_
          go_wp2_with (first | (at_make; refine Stop.un ?_) | (at_builtin; refine Stop.un ?_))
          refine MixPost.mk (fun u hu => by rw [World.cell?_of_block (a := ⟨g, 2, none⟩) (Below.heap_setCell _ _ _ _ (fun e => hne e.symm))]; exact hu) ?_
          refine mix_end (by kernel_rfl) ?_
          clear c2 f2 cl2
          go_wp2_with (first | (at_make; refine Stop.un ?_) | (at_builtin; refine Stop.un ?_))
          exact bodyPost_ret (v := .tuple #[.pointer (some ⟨g, 0, none⟩), .int .i64 0]) (by simp [results, Try.results10, go_sem]) rfl ⟨⟨g, gs, ah, ch, a, p, c⟩, H, q1, h, _, v, rfl, G, HH2.out, HQQ.out, HQ.out, b10, HGE.out, by rw [HM.out]; exact hjm⟩
end Go.Proofs.Ytfhlbiddhgkcpaa
