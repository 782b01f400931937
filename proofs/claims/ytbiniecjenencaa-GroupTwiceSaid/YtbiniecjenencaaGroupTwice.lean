/- GroupTwice. -/
import Derived.Test.YtbiniecjenencaaGTri
import Derived.Test.YtbiniecjenencaaGTwice
import Derived.Test.YtbiniecjenencaaOSame
set_option linter.unusedVariables false
set_option linter.unusedSimpArgs false
set_option maxRecDepth 10000
namespace Go.Proofs.Ytbiniecjenencaa
open Go.RowKit
theorem RX.atg {B : Nat} {o : Option Nat} {w x : World} {g : Nat} {cs : Array Value} {t : TypeId} (h : RX B o w x) (z : At w g cs t) (hb : g < B) (hn : Hid (o ≠ some g)) : At x g cs t := (h.block g hb (fun e => hn.out e.symm)).trans z
section
variable {w0 w x : World} {v v' : Value} {N n' : Nat} {rs news : List Rw}
theorem OutM.pushs (M : OutM w0 w v N rs) (hr : ∀ r ∈ news, RowOk w r ∧ Fz w r ∧ ∀ a, r.a = some a → w0.heap.size ≤ a.block ∧ a.block < w.heap.size ∧ v.ownBlock ≠ some a.block)
    (O : OwnRs w0 x v' n' (rs ++ news)) (g : w.grownBy x v.ownBlock) (k : ∀ k, v'.ownBlock = some k → v.ownBlock = some k ∨ w.heap.size ≤ k) : OutM w0 x v' n' (rs ++ news) := by
  refine ⟨O, fun y hy => ?_⟩
  have hy2 : RowOk w y ∧ Fz w y ∧ ∀ a, y.a = some a → w0.heap.size ≤ a.block ∧ a.block < w.heap.size ∧ v.ownBlock ≠ some a.block := by
    rcases List.mem_append.1 hy with h1 | h1
    · exact M.F y h1
    · exact hr y h1
  refine ⟨⟨hy2.1.cs.grown g (fun z hz => ⟨(hy2.2.2 z hz).2.1, (hy2.2.2 z hz).2.2⟩), hy2.1.len, hy2.1.le, hy2.1.max, hy2.1.kind⟩, hy2.2.1.grown g (fun a ha => (hy2.2.2 a ha).2.2), fun a ha => ?_⟩
  obtain ⟨h1, h2, h3⟩ := hy2.2.2 a ha
  refine ⟨h1, Nat.lt_of_lt_of_le h2 g.size, fun e => ?_⟩
  rcases k _ e with h4 | h4
  · exact h3 h4
  · omega
end
/-- A row of three numbers, in a block of its own. -/
def tRw (g : Nat) (a b c : Int) : Rw := ⟨some ⟨g, 0, none⟩, 3, 3, [numG a, numG b, numG c]⟩
theorem tRw_ok {w0 w : World} {g : Nat} {a b c : Int} {v : Value} (h : At w g #[.int .u8 2, .int .i64 a, .string ⟨#[]⟩, .int .u8 2, .int .i64 b, .string ⟨#[]⟩, .int .u8 2, .int .i64 c, .string ⟨#[]⟩] 38) (h0 : w0.heap.size ≤ g) (hv : v.ownBlock ≠ some g) :
    RowOk w (tRw g a b c) ∧ Fz w (tRw g a b c) ∧ ∀ q, (tRw g a b c).a = some q → w0.heap.size ≤ q.block ∧ q.block < w.heap.size ∧ v.ownBlock ≠ some q.block := by
  refine ⟨rowAt (l := [numG a, numG b, numG c]) h (Nat.le_of_ble_eq_true rfl) (by simp [numG]), fun q hq => ?_, fun q hq => ?_⟩
  · obtain rfl := Option.some.inj hq
    exact ⟨g, _, _, rfl, h, by show 3 * 3 ≤ 9; decide⟩
  · obtain rfl := Option.some.inj hq
    exact ⟨h0, h.lt, hv⟩
theorem tmod3 (n : Int) : -3 < n.tmod 3 ∧ n.tmod 3 < 3 := by
  have h := Int.tmod_lt_of_pos n (show (0 : Int) < 3 by decide)
  have h2 := Int.tmod_lt_of_pos (-n) (show (0 : Int) < 3 by decide)
  rw [Int.neg_tmod] at h2
  omega
/-- A row made of three numbers. -/
def rowT (x : T3) : List V := [numG (x.a.tmod 3), numG (x.b.tmod 3), numG x.c]
theorem rowT_tri {x : T3} (h : x.ok) : tri (rowT x) := by
  obtain ⟨⟨a0, a1⟩, ⟨b0, b1⟩, c0, c1⟩ := h
  refine ⟨_, _, _, rfl, ?_, ?_, c0, by omega⟩
  · have := tmod3 x.a
    unfold inI
    omega
  · have := tmod3 x.b
    unfold inI
    omega
set_option maxRecDepth 100000 in
set_option maxHeartbeats 16000000 in
theorem groupTwice_any (a1 : Option Addr) (m c1 : Nat) (l : List T3) (w : World)
    (h1 : Cs w a1 (tcells l)) (e1 : l.length = m) (m1 : m ≤ c1) (cm1 : c1 ≤ maxLen) (hz : ∀ x ∈ l, x.ok) :
    Calls Try.prog 8 #[.slice a1 m c1] w (fun e w' => e = .returned (.bool true) ∧ Below w.heap.size w w') := by
  unfold maxLen at cm1
  have HN := Lib.hid (And.intro e1 (And.intro hz h1))
  clear e1 hz h1
  go_enter Try.func8, Try.ntmps8
  go_wp2_with (first | (at_make; refine Stop.un ?_) | (at_builtin; refine Stop.un ?_) | (with_reducible refine Stop.conv 22 9 ?_) | (with_reducible refine Stop.conv 9 22 ?_))
  refine (shown_any22 _).mono ?_
  rintro e wb ⟨rfl, b0⟩
  go_upto_block 0 with fail
  have zk := At.new wb #[.int .u8 2, .int .u8 2, .int .u8 2] 5
  replace b0 := b0.next ((Below.refl wb.heap.size wb).alloc (Nat.le_refl _) (.cells #[.int .u8 2, .int .u8 2, .int .u8 2] 5))
  generalize wb.alloc (.cells #[.int .u8 2, .int .u8 2, .int .u8 2] 5) = wk at zk b0 ⊢
  generalize wb.heap.size = gk at zk ⊢
  go_cut [5, 6, 7] from 20 to 45 (fun rv _ _ wx => ∃ (k : Nat) (ar : Option Addr) (cr : Nat) (rs : List Rw), k ≤ 60 ∧ rv = .slice ar k cr ∧ OutM wk wx (.slice ar k cr) k rs ∧ Hid (rs.map (·.l) = (l.take k).map rowT ∧ k ≤ l.length))
  case first =>
    go_wp2_with fail
    go_loopw [20, 5] (fun iv rv wr => ∃ (j : Nat) (ar : Option Addr) (cr : Nat) (rs : List Rw), j ≤ m ∧ j ≤ 60 ∧ iv = .int .i64 (j : Int) ∧ rv = .slice ar j cr ∧ OutM wk wr (.slice ar j cr) j rs ∧ Hid (rs.map (·.l) = (l.take j).map rowT)) (fun iv _ _ => m - (intOf iv).toNat)
    case atStart => exact ⟨0, none, 0, [], Nat.zero_le _, by omega, rfl, rfl, OutM.nil (Below.refl _ _), Lib.hid rfl⟩
    case round =>
      obtain ⟨j, ar, cr, rs, hj, hj60, rfl, rfl, M, HX⟩ := hrel
      by_cases hlt : j < m
      · have hjl : j < l.length := by have := HN.out.1; omega
        have h2 := HN.out.2.2.mono (b0.next (Own.below M.O)) (Nat.le_refl _)
        obtain ⟨b, o, rfl⟩ := h2.addr (by rw [tcells_length]; omega)
        obtain ⟨y0, y1, y2⟩ := h2.tat hjl
        have HT : Hid ((l.take (j + 1)).map rowT = (l.take j).map rowT ++ [rowT l[j]]) := Lib.hid (by rw [List.take_succ_eq_append_getElem hjl, List.map_append]; rfl)
        have HKL : Hid (rs.map (·.l) = (l.take j).map rowT ∧ j ≤ l.length) := Lib.hid ⟨HX.out, by omega⟩
        obtain ⟨⟨xa0, xa1⟩, ⟨xb0, xb1⟩, xc0, xc1⟩ := HN.out.2.1 l[j] (List.getElem_mem _)
        generalize l[j] = x at y0 y1 y2 HT xa0 xa1 xb0 xb1 xc0 xc1
        obtain ⟨xa, xb, xc⟩ := x
        simp only at y0 y1 y2 xa0 xa1 xb0 xb1 xc0 xc1
        clear hjl h2
        by_cases h60 : 60 ≤ j
        · have hd : decide ((60 : Int) ≤ (j : Int)) = true := decide_eq_true (by omega)
          go_wp2_with (first | (at_make; refine Stop.un ?_) | (at_builtin; refine Stop.un ?_) | (with_reducible refine Stop.conv 22 9 ?_) | (with_reducible refine Stop.conv 9 22 ?_))
          have M1 := M.below ((Below.refl wr.heap.size wr).alloc (Nat.le_refl _) (.cells #[.int .i32 xa, .int .i32 xb, .int .i32 xc] 54))
          go_meet
          exact ⟨j, ar, cr, rs, hj60, rfl, M1, HKL⟩
        · have hd : decide ((60 : Int) ≤ (j : Int)) = false := decide_eq_false (by omega)
          clear HKL
          go_upto_region 8 with fail
          have zx := At.new wr #[.int .i32 xa, .int .i32 xb, .int .i32 xc] 54
          have zxn : Hid ((Value.slice ar j cr).ownBlock ≠ some wr.heap.size) := Lib.hid (fun e => by have := Own.lt M.O _ e; omega)
          replace M := M.below ((Below.refl wr.heap.size wr).alloc (Nat.le_refl _) (.cells #[.int .i32 xa, .int .i32 xb, .int .i32 xc] 54))
          clear y0 y1 y2
          generalize wr.alloc (.cells #[.int .i32 xa, .int .i32 xb, .int .i32 xc] 54) = wo at zx M ⊢
          generalize wr.heap.size = gx at zx zxn ⊢
          have zx_b : gx < wo.heap.size := zx.lt
          have HSZ : Hid (wo.heap.size ≤ wo.heap.size) := Lib.hid (Nat.le_refl _)
          refine mix_startX (wo.heap.size) (Value.slice ar j cr).ownBlock 19 rfl (by kernel_rfl) ?_
          intro xq hxq
          replace zx := At.mono zx hxq
          replace M := OutM.below M hxq
          replace HSZ := Lib.hid (Nat.le_trans (Hid.out HSZ) (Below.size hxq))
          have hxB := hxq
          clear hxq
          refine mix_quiet (Keeps.rx (wo.heap.size) (Value.slice ar j cr).ownBlock) 0 rfl (by kernel_rfl) rfl ?_
          intro ι U hne hU
          go_big_quiet_op
          clear hU hne U ι
          show wpAnyM _ _ _ _ _ _ _ _ _
          refine mix_quiet (Keeps.rx (wo.heap.size) (Value.slice ar j cr).ownBlock) 1 rfl (by kernel_rfl) rfl ?_
          intro ι U hne hU
          go_big_quiet_op
          clear hU hne U ι
          show wpAnyM _ _ _ _ _ _ _ _ _
          refine mix_quiet (Keeps.rx (wo.heap.size) (Value.slice ar j cr).ownBlock) 2 rfl (by kernel_rfl) rfl ?_
          intro ι U hne hU
          have hcw0 := fun ii => ((RX.atg (hU ii) zx zx_b zxn).cell 0 rfl)
          have hcw1 := fun ii => ((RX.atg (hU ii) zx zx_b zxn).cell 1 rfl)
          have hcw2 := fun ii => ((RX.atg (hU ii) zx zx_b zxn).cell 2 rfl)
          go_big_quiet_op
          clear hU hne hcw0 hcw1 hcw2 U ι
          show wpAnyM _ _ _ _ _ _ _ _ _
          refine mix_quiet (Keeps.rx (wo.heap.size) (Value.slice ar j cr).ownBlock) 3 rfl (by kernel_rfl) rfl ?_
          intro ι U hne hU
          go_big_quiet_op
          clear hU hne U ι
          show wpAnyM _ _ _ _ _ _ _ _ _
          refine mix_quiet (Keeps.rx (wo.heap.size) (Value.slice ar j cr).ownBlock) 4 rfl (by kernel_rfl) rfl ?_
          intro ι U hne hU
          go_big_quiet_op
          clear hU hne U ι
          show wpAnyM _ _ _ _ _ _ _ _ _
          refine mix_quiet (Keeps.rx (wo.heap.size) (Value.slice ar j cr).ownBlock) 6 rfl (by kernel_rfl) rfl ?_
          intro ι U hne hU
          go_big_quiet_op
          clear hU hne U ι
          show wpAnyM _ _ _ _ _ _ _ _ _
          refine mix_quiet (Keeps.rx (wo.heap.size) (Value.slice ar j cr).ownBlock) 7 rfl (by kernel_rfl) rfl ?_
          intro ι U hne hU
          have hcw0 := fun ii => ((RX.atg (hU ii) zx zx_b zxn).cell 0 rfl)
          have hcw1 := fun ii => ((RX.atg (hU ii) zx zx_b zxn).cell 1 rfl)
          have hcw2 := fun ii => ((RX.atg (hU ii) zx zx_b zxn).cell 2 rfl)
          go_big_quiet_op
          clear hU hne hcw0 hcw1 hcw2 U ι
          show wpAnyM _ _ _ _ _ _ _ _ _
          refine mix_quiet (Keeps.rx (wo.heap.size) (Value.slice ar j cr).ownBlock) 8 rfl (by kernel_rfl) rfl ?_
          intro ι U hne hU
          go_big_quiet_op
          clear hU hne U ι
          show wpAnyM _ _ _ _ _ _ _ _ _
          refine mix_quiet (Keeps.rx (wo.heap.size) (Value.slice ar j cr).ownBlock) 9 rfl (by kernel_rfl) rfl ?_
          intro ι U hne hU
          go_big_quiet_op
          clear hU hne U ι
          show wpAnyM _ _ _ _ _ _ _ _ _
          refine mix_quiet (Keeps.rx (wo.heap.size) (Value.slice ar j cr).ownBlock) 11 rfl (by kernel_rfl) rfl ?_
          intro ι U hne hU
          go_big_quiet_op
          clear hU hne U ι
          show wpAnyM _ _ _ _ _ _ _ _ _
          refine mix_quiet (Keeps.rx (wo.heap.size) (Value.slice ar j cr).ownBlock) 12 rfl (by kernel_rfl) rfl ?_
          intro ι U hne hU
          have hcw0 := fun ii => ((RX.atg (hU ii) zx zx_b zxn).cell 0 rfl)
          have hcw1 := fun ii => ((RX.atg (hU ii) zx zx_b zxn).cell 1 rfl)
          have hcw2 := fun ii => ((RX.atg (hU ii) zx zx_b zxn).cell 2 rfl)
          go_big_quiet_op
          clear hU hne hcw0 hcw1 hcw2 U ι
          show wpAnyM _ _ _ _ _ _ _ _ _
          refine mix_quiet (Keeps.rx (wo.heap.size) (Value.slice ar j cr).ownBlock) 13 rfl (by kernel_rfl) rfl ?_
          intro ι U hne hU
          go_big_quiet_op
          clear hU hne U ι
          show wpAnyM _ _ _ _ _ _ _ _ _
          refine mix_any 5 rfl (by kernel_rfl) rfl ?_
          go_wp2_with (first | (at_make; refine Stop.un ?_) | (at_builtin; refine Stop.un ?_) | (with_reducible refine Stop.conv 22 9 ?_) | (with_reducible refine Stop.conv 9 22 ?_))
          refine (num_any22 _ _).mono ?_
          rintro e wq1 ⟨rfl, bq1⟩
          go_wp2_with (first | (at_make; refine Stop.un ?_) | (at_builtin; refine Stop.un ?_) | (with_reducible refine Stop.conv 22 9 ?_) | (with_reducible refine Stop.conv 9 22 ?_))
          refine MixPost.mk (RX.ext bq1 (Hid.out HSZ)) ?_
          replace zx := At.mono zx bq1
          replace M := OutM.below M bq1
          replace HSZ := Lib.hid (Nat.le_trans (Hid.out HSZ) (Below.size bq1))
          clear bq1
          refine mix_any 10 rfl (by kernel_rfl) rfl ?_
          go_wp2_with (first | (at_make; refine Stop.un ?_) | (at_builtin; refine Stop.un ?_) | (with_reducible refine Stop.conv 22 9 ?_) | (with_reducible refine Stop.conv 9 22 ?_))
          refine (num_any22 _ _).mono ?_
          rintro e wq2 ⟨rfl, bq2⟩
          go_wp2_with (first | (at_make; refine Stop.un ?_) | (at_builtin; refine Stop.un ?_) | (with_reducible refine Stop.conv 22 9 ?_) | (with_reducible refine Stop.conv 9 22 ?_))
          refine MixPost.mk (RX.ext bq2 (Hid.out HSZ)) ?_
          replace zx := At.mono zx bq2
          replace M := OutM.below M bq2
          replace HSZ := Lib.hid (Nat.le_trans (Hid.out HSZ) (Below.size bq2))
          clear bq2
          refine mix_any 14 rfl (by kernel_rfl) rfl ?_
          go_wp2_with (first | (at_make; refine Stop.un ?_) | (at_builtin; refine Stop.un ?_) | (with_reducible refine Stop.conv 22 9 ?_) | (with_reducible refine Stop.conv 9 22 ?_))
          refine (num_any22 _ _).mono ?_
          rintro e wq3 ⟨rfl, bq3⟩
          go_wp2_with (first | (at_make; refine Stop.un ?_) | (at_builtin; refine Stop.un ?_) | (with_reducible refine Stop.conv 22 9 ?_) | (with_reducible refine Stop.conv 9 22 ?_))
          refine MixPost.mk (RX.ext bq3 (Hid.out HSZ)) ?_
          replace zx := At.mono zx bq3
          replace M := OutM.below M bq3
          replace HSZ := Lib.hid (Nat.le_trans (Hid.out HSZ) (Below.size bq3))
          clear bq3
          refine mix_any 15 rfl (by kernel_rfl) rfl ?_
          go_wp2_with (first | (at_make; refine Stop.un ?_) | (at_builtin; refine Stop.un ?_) | (with_reducible refine Stop.conv 22 9 ?_) | (with_reducible refine Stop.conv 9 22 ?_))
          have zr := At.new wq3 #[.int .u8 2, .int .i64 (xa.tmod 3), .string ⟨#[]⟩, .int .u8 2, .int .i64 (xb.tmod 3), .string ⟨#[]⟩, .int .u8 2, .int .i64 xc, .string ⟨#[]⟩] 38
          have hg0 := Own.le M.O
          have HGN : Hid ((Value.slice ar j cr).ownBlock ≠ some wq3.heap.size) := Lib.hid (fun e => by have := Own.lt M.O _ e; omega)
          have bqr := (Below.refl wq3.heap.size wq3).alloc (Nat.le_refl _) (.cells #[.int .u8 2, .int .i64 (xa.tmod 3), .string ⟨#[]⟩, .int .u8 2, .int .i64 (xb.tmod 3), .string ⟨#[]⟩, .int .u8 2, .int .i64 xc, .string ⟨#[]⟩] 38)
          refine MixPost.mk (RX.ext bqr (Hid.out HSZ)) ?_
          replace zx := At.mono zx bqr
          replace M := OutM.below M bqr
          replace HSZ := Lib.hid (Nat.le_trans (Hid.out HSZ) (Below.size bqr))
          clear bqr
          generalize wq3.alloc (.cells #[.int .u8 2, .int .i64 (xa.tmod 3), .string ⟨#[]⟩, .int .u8 2, .int .i64 (xb.tmod 3), .string ⟨#[]⟩, .int .u8 2, .int .i64 xc, .string ⟨#[]⟩] 38) = wr1 at zr zx M HSZ ⊢
          generalize wq3.heap.size = gr at zr hg0 HGN ⊢
          refine mix_any 16 rfl (by kernel_rfl) rfl ?_
          go_wp2_with (first | (at_make; refine Stop.un ?_) | (at_builtin; refine Stop.un ?_) | (with_reducible refine Stop.conv 22 9 ?_) | (with_reducible refine Stop.conv 9 22 ?_))
          have zh := At.new wr1 #[.slice (some ⟨gr, 0, none⟩) 3 3] 36
          have bqr := (Below.refl wr1.heap.size wr1).alloc (Nat.le_refl _) (.cells #[.slice (some ⟨gr, 0, none⟩) 3 3] 36)
          refine MixPost.mk (RX.ext bqr (Hid.out HSZ)) ?_
          replace zx := At.mono zx bqr
          replace M := OutM.below M bqr
          replace HSZ := Lib.hid (Nat.le_trans (Hid.out HSZ) (Below.size bqr))
          replace zr := At.mono zr bqr
          clear bqr
          generalize wr1.alloc (.cells #[.slice (some ⟨gr, 0, none⟩) 3 3] 36) = wr2 at zr zh zx M HSZ ⊢
          generalize wr1.heap.size = gh at zh ⊢
          refine mix_any 17 rfl (by kernel_rfl) rfl ?_
          go_wp2_with (first | (at_make; refine Stop.un ?_) | (at_builtin; refine Stop.un ?_) | (with_reducible refine Stop.conv 22 9 ?_) | (with_reducible refine Stop.conv 9 22 ?_))
          have okA := tRw_ok zr hg0 HGN.out
          refine Stop.mk (app_rws wk _ _ rfl rfl M.O rfl rfl (news := [tRw gr (xa.tmod 3) (xb.tmod 3) xc]) rfl (At.cs15 zh) (by omega) ?_)
          intro a5 c5 w5 O5 g5 k5
          have gx5 : RX wo.heap.size (Value.slice ar j cr).ownBlock _ w5 := RX.grown g5 (Hid.out HSZ) (fun q e => .inr e.symm)
          have M5 := M.pushs (fun r hr => by rw [List.mem_singleton.1 hr]; exact okA) O5 g5 k5
          go_wp2_with (first | (at_make; refine Stop.un ?_) | (at_builtin; refine Stop.un ?_) | (with_reducible refine Stop.conv 22 9 ?_) | (with_reducible refine Stop.conv 9 22 ?_))
          refine MixPost.mk gx5 ?_
          clear g5 k5 gx5 O5 okA zr zh hg0 HGN zx HSZ M zxn zx_b
          refine mix_quiet (Keeps.rx (wo.heap.size) (Value.slice ar j cr).ownBlock) 18 rfl (by kernel_rfl) rfl ?_
          intro ι U hne hU
          go_big_quiet_op
          clear hU hne U ι
          show wpAnyM _ _ _ _ _ _ _ _ _
          refine mix_end (by kernel_rfl) ?_
          have HX2 : Hid ((rs ++ [tRw gr (xa.tmod 3) (xb.tmod 3) xc]).map (·.l) = (l.take (j + 1)).map rowT) := Lib.hid (by rw [List.map_append, HX.out, HT.out]; rfl)
          clear HX HT hxB
          go_wp2_with (first | (at_make; refine Stop.un ?_) | (at_builtin; refine Stop.un ?_) | (with_reducible refine Stop.conv 22 9 ?_) | (with_reducible refine Stop.conv 9 22 ?_))
          go_roundw
          case rel => exact ⟨j + 1, a5, c5, _, by omega, by omega, by go_num, rfl, M5, HX2⟩
          case measure => simp [intOf]; omega
      · have HKL : Hid (rs.map (·.l) = (l.take j).map rowT ∧ j ≤ l.length) := Lib.hid ⟨HX.out, by have := HN.out.1; omega⟩
        go_wp2_with (first | (at_make; refine Stop.un ?_) | (at_builtin; refine Stop.un ?_) | (with_reducible refine Stop.conv 22 9 ?_) | (with_reducible refine Stop.conv 9 22 ?_))
        go_meet
        exact ⟨j, ar, cr, rs, hj60, rfl, M, HKL⟩
  case rest =>
    obtain ⟨k, ar, cr, rs, hk60, rfl, M, HX⟩ := hcut
    have hRl : (rs.map (·.l)).length ≤ 60 := by
      rw [HX.out.1, List.length_map, List.length_take]
      omega
    have hRt : ∀ r ∈ rs.map (·.l), tri r := fun r hr => by
      rw [HX.out.1] at hr
      obtain ⟨x, hx, rfl⟩ := List.mem_map.1 hr
      exact rowT_tri (HN.out.2.1 x (List.mem_of_mem_take hx))
    have hrn0 : ∀ r ∈ rs, r.n ≤ 1000 := fun r hr => by
      obtain ⟨a, b, c, h2, _⟩ := hRt _ (List.mem_map_of_mem (f := fun x : Rw => x.l) hr)
      have h3 := (M.F r hr).1.len
      rw [show r.l = [numG a, numG b, numG c] from h2] at h3
      simp only [List.length_cons, List.length_nil] at h3
      omega
    obtain ⟨FF, CC, E1, E2, E3, hF1, hF2⟩ := grp_twice _ hRt hRl
    have HE := Lib.hid (And.intro E1 (And.intro E2 (And.intro E3 (And.intro hF1 (And.intro hF2 hrn0)))))
    clear E1 E2 E3 hF1 hF2 hrn0 hRt hRl HX HN
    replace zk := zk.mono (Own.below M.O)
    have hle0 := owns_le M.O.1
    have hmx0 : cr ≤ 9223372036854775807 := owns_max M.O.1
    obtain ⟨wX, hwX⟩ : ∃ wX, wc = wX := ⟨_, rfl⟩
    rw [hwX] at M zk ⊢
    clear hwX
    go_wp2_with (first | (at_make; refine Stop.un ?_) | (at_builtin; refine Stop.un ?_) | (with_reducible refine Stop.conv 22 9 ?_) | (with_reducible refine Stop.conv 9 22 ?_))
    have zg : At ((wX.alloc (.cells #[.int .u8 1, .int .i64 0, .int .u8 2, .int .i64 2, .int .u8 3, .int .i64 2, .int .u8 4, .int .i64 2, .int .u8 5, .int .i64 2] 34)).alloc (.cells #[.int .i64 0, .int .i64 1] 3)) (wX.heap.size) #[.int .u8 1, .int .i64 0, .int .u8 2, .int .i64 2, .int .u8 3, .int .i64 2, .int .u8 4, .int .i64 2, .int .u8 5, .int .i64 2] 34 := by simpa only [World.size_alloc, Nat.add_assoc, Nat.reduceAdd] using (At.new wX #[.int .u8 1, .int .i64 0, .int .u8 2, .int .i64 2, .int .u8 3, .int .i64 2, .int .u8 4, .int .i64 2, .int .u8 5, .int .i64 2] 34).alloc (.cells #[.int .i64 0, .int .i64 1] 3)
    have zb : At ((wX.alloc (.cells #[.int .u8 1, .int .i64 0, .int .u8 2, .int .i64 2, .int .u8 3, .int .i64 2, .int .u8 4, .int .i64 2, .int .u8 5, .int .i64 2] 34)).alloc (.cells #[.int .i64 0, .int .i64 1] 3)) (wX.heap.size + 1) #[.int .i64 0, .int .i64 1] 3 := by simpa only [World.size_alloc, Nat.add_assoc, Nat.reduceAdd] using At.new (wX.alloc (.cells #[.int .u8 1, .int .i64 0, .int .u8 2, .int .i64 2, .int .u8 3, .int .i64 2, .int .u8 4, .int .i64 2, .int .u8 5, .int .i64 2] 34)) #[.int .i64 0, .int .i64 1] 3
    have BB : Below wX.heap.size wX ((wX.alloc (.cells #[.int .u8 1, .int .i64 0, .int .u8 2, .int .i64 2, .int .u8 3, .int .i64 2, .int .u8 4, .int .i64 2, .int .u8 5, .int .i64 2] 34)).alloc (.cells #[.int .i64 0, .int .i64 1] 3)) := Below.alloc (Below.alloc (Below.refl wX.heap.size wX) (by (try simp only [World.size_alloc]) <;> omega) (.cells #[.int .u8 1, .int .i64 0, .int .u8 2, .int .i64 2, .int .u8 3, .int .i64 2, .int .u8 4, .int .i64 2, .int .u8 5, .int .i64 2] 34)) (by (try simp only [World.size_alloc]) <;> omega) (.cells #[.int .i64 0, .int .i64 1] 3)
    replace M := OutM.below M BB
    replace zk := At.mono zk BB
    clear BB
    generalize ((wX.alloc (.cells #[.int .u8 1, .int .i64 0, .int .u8 2, .int .i64 2, .int .u8 3, .int .i64 2, .int .u8 4, .int .i64 2, .int .u8 5, .int .i64 2] 34)).alloc (.cells #[.int .i64 0, .int .i64 1] 3)) = w1 at zg zb M zk ⊢
    generalize wX.heap.size + 1 = gB at zb ⊢
    generalize wX.heap.size = gG at zg zb ⊢
    have hgr := grows_any (some ⟨gk, 0, none⟩) 3 3 [2, 2, 2] ar k cr rs (some ⟨gB, 0, none⟩) 2 2 [0, 1] (some ⟨gG, 0, none⟩) 5 5 five w1 (At.cs15 (xs := bcells [2, 2, 2]) zk) rfl (by decide) (by decide) ⟨Own.cs M.O, fun r hr => (M.F r hr).1⟩ (OwnRs.length M.O) (owns_le M.O.1) (owns_max M.O.1) (by omega) HE.out.2.2.2.2.2 (At.cs15 (xs := icells [0, 1]) zb) rfl (by decide) (by decide) (by decide) (At.cs15 (xs := agcells five) zg) rfl (by decide) (by decide) (by decide)
    rw [HE.out.1] at hgr
    clear zb
    have HGR := Lib.hid hgr
    clear hgr
    refine HGR.out.mono ?_
    rintro e w2 ⟨aA, nA, cA, rA, rfl, MA, hA⟩
    simp only at hA ⊢
    clear HGR
    have bt := Own.below MA.O
    replace M := OutM.below M bt
    replace zk := At.mono zk bt
    replace zg := At.mono zg bt
    clear bt
    have HA := Lib.hid hA
    clear hA
    have hleA := owns_le MA.O.1
    have hmxA : cA ≤ 9223372036854775807 := owns_max MA.O.1
    go_wp2_with (first | (at_make; refine Stop.un ?_) | (at_builtin; refine Stop.un ?_) | (with_reducible refine Stop.conv 22 9 ?_) | (with_reducible refine Stop.conv 9 22 ?_))
    have zb : At (w2.alloc (.cells #[.int .i64 0] 3)) (w2.heap.size) #[.int .i64 0] 3 := by simpa only [World.size_alloc, Nat.add_assoc, Nat.reduceAdd] using At.new w2 #[.int .i64 0] 3
    have BB : Below w2.heap.size w2 (w2.alloc (.cells #[.int .i64 0] 3)) := Below.alloc (Below.refl w2.heap.size w2) (by (try simp only [World.size_alloc]) <;> omega) (.cells #[.int .i64 0] 3)
    replace M := OutM.below M BB
    replace zk := At.mono zk BB
    replace zg := At.mono zg BB
    replace MA := OutM.below MA BB
    clear BB
    generalize (w2.alloc (.cells #[.int .i64 0] 3)) = w3 at zb M zk zg MA ⊢
    generalize w2.heap.size = gB2 at zb ⊢
    have hgr := grows_any (some ⟨gk, 0, none⟩) 3 3 [2, 2, 2] ar k cr rs (some ⟨gB2, 0, none⟩) 1 1 [0] (some ⟨gG, 0, none⟩) 5 5 five w3 (At.cs15 (xs := bcells [2, 2, 2]) zk) rfl (by decide) (by decide) ⟨Own.cs M.O, fun r hr => (M.F r hr).1⟩ (OwnRs.length M.O) (owns_le M.O.1) (owns_max M.O.1) (by omega) HE.out.2.2.2.2.2 (At.cs15 (xs := icells [0]) zb) rfl (by decide) (by decide) (by decide) (At.cs15 (xs := agcells five) zg) rfl (by decide) (by decide) (by decide)
    rw [HE.out.2.1] at hgr
    replace b0 := b0.next (Own.below M.O)
    clear zb zk zg M
    have HGR := Lib.hid hgr
    clear hgr
    refine HGR.out.mono ?_
    rintro e w4 ⟨aB, nB, cB, rB, rfl, MB, hB⟩
    simp only at hB ⊢
    clear HGR
    have bt := Own.below MB.O
    replace MA := OutM.below MA bt
    replace b0 := Below.next b0 bt
    clear bt
    have HB := Lib.hid hB
    clear hB
    have hleB := owns_le MB.O.1
    have hmxB : cB ≤ 9223372036854775807 := owns_max MB.O.1
    go_wp2_with (first | (at_make; refine Stop.un ?_) | (at_builtin; refine Stop.un ?_) | (with_reducible refine Stop.conv 22 9 ?_) | (with_reducible refine Stop.conv 9 22 ?_))
    have zk : At (((w4.alloc (.cells #[.int .u8 2, .int .u8 2, .int .u8 2, .int .u8 2, .int .u8 2, .int .u8 2, .int .u8 2] 5)).alloc (.cells #[.int .i64 0] 3)).alloc (.cells #[.int .u8 3, .int .i64 2, .int .u8 3, .int .i64 3, .int .u8 3, .int .i64 4, .int .u8 4, .int .i64 5, .int .u8 5, .int .i64 6] 34)) (w4.heap.size) #[.int .u8 2, .int .u8 2, .int .u8 2, .int .u8 2, .int .u8 2, .int .u8 2, .int .u8 2] 5 := by simpa only [World.size_alloc, Nat.add_assoc, Nat.reduceAdd] using ((At.new w4 #[.int .u8 2, .int .u8 2, .int .u8 2, .int .u8 2, .int .u8 2, .int .u8 2, .int .u8 2] 5).alloc (.cells #[.int .i64 0] 3)).alloc (.cells #[.int .u8 3, .int .i64 2, .int .u8 3, .int .i64 3, .int .u8 3, .int .i64 4, .int .u8 4, .int .i64 5, .int .u8 5, .int .i64 6] 34)
    have zb : At (((w4.alloc (.cells #[.int .u8 2, .int .u8 2, .int .u8 2, .int .u8 2, .int .u8 2, .int .u8 2, .int .u8 2] 5)).alloc (.cells #[.int .i64 0] 3)).alloc (.cells #[.int .u8 3, .int .i64 2, .int .u8 3, .int .i64 3, .int .u8 3, .int .i64 4, .int .u8 4, .int .i64 5, .int .u8 5, .int .i64 6] 34)) (w4.heap.size + 1) #[.int .i64 0] 3 := by simpa only [World.size_alloc, Nat.add_assoc, Nat.reduceAdd] using (At.new (w4.alloc (.cells #[.int .u8 2, .int .u8 2, .int .u8 2, .int .u8 2, .int .u8 2, .int .u8 2, .int .u8 2] 5)) #[.int .i64 0] 3).alloc (.cells #[.int .u8 3, .int .i64 2, .int .u8 3, .int .i64 3, .int .u8 3, .int .i64 4, .int .u8 4, .int .i64 5, .int .u8 5, .int .i64 6] 34)
    have zg : At (((w4.alloc (.cells #[.int .u8 2, .int .u8 2, .int .u8 2, .int .u8 2, .int .u8 2, .int .u8 2, .int .u8 2] 5)).alloc (.cells #[.int .i64 0] 3)).alloc (.cells #[.int .u8 3, .int .i64 2, .int .u8 3, .int .i64 3, .int .u8 3, .int .i64 4, .int .u8 4, .int .i64 5, .int .u8 5, .int .i64 6] 34)) (w4.heap.size + 2) #[.int .u8 3, .int .i64 2, .int .u8 3, .int .i64 3, .int .u8 3, .int .i64 4, .int .u8 4, .int .i64 5, .int .u8 5, .int .i64 6] 34 := by simpa only [World.size_alloc, Nat.add_assoc, Nat.reduceAdd] using At.new ((w4.alloc (.cells #[.int .u8 2, .int .u8 2, .int .u8 2, .int .u8 2, .int .u8 2, .int .u8 2, .int .u8 2] 5)).alloc (.cells #[.int .i64 0] 3)) #[.int .u8 3, .int .i64 2, .int .u8 3, .int .i64 3, .int .u8 3, .int .i64 4, .int .u8 4, .int .i64 5, .int .u8 5, .int .i64 6] 34
    have BB : Below w4.heap.size w4 (((w4.alloc (.cells #[.int .u8 2, .int .u8 2, .int .u8 2, .int .u8 2, .int .u8 2, .int .u8 2, .int .u8 2] 5)).alloc (.cells #[.int .i64 0] 3)).alloc (.cells #[.int .u8 3, .int .i64 2, .int .u8 3, .int .i64 3, .int .u8 3, .int .i64 4, .int .u8 4, .int .i64 5, .int .u8 5, .int .i64 6] 34)) := Below.alloc (Below.alloc (Below.alloc (Below.refl w4.heap.size w4) (by (try simp only [World.size_alloc]) <;> omega) (.cells #[.int .u8 2, .int .u8 2, .int .u8 2, .int .u8 2, .int .u8 2, .int .u8 2, .int .u8 2] 5)) (by (try simp only [World.size_alloc]) <;> omega) (.cells #[.int .i64 0] 3)) (by (try simp only [World.size_alloc]) <;> omega) (.cells #[.int .u8 3, .int .i64 2, .int .u8 3, .int .i64 3, .int .u8 3, .int .i64 4, .int .u8 4, .int .i64 5, .int .u8 5, .int .i64 6] 34)
    replace MA := OutM.below MA BB
    replace b0 := Below.next b0 BB
    replace MB := OutM.below MB BB
    clear BB
    generalize (((w4.alloc (.cells #[.int .u8 2, .int .u8 2, .int .u8 2, .int .u8 2, .int .u8 2, .int .u8 2, .int .u8 2] 5)).alloc (.cells #[.int .i64 0] 3)).alloc (.cells #[.int .u8 3, .int .i64 2, .int .u8 3, .int .i64 3, .int .u8 3, .int .i64 4, .int .u8 4, .int .i64 5, .int .u8 5, .int .i64 6] 34)) = w5 at zk zb zg MA b0 MB ⊢
    generalize w4.heap.size + 2 = gG3 at zg ⊢
    generalize w4.heap.size + 1 = gB3 at zb zg ⊢
    generalize w4.heap.size = gK at zk zb zg ⊢
    have hnA : nA ≤ 1000 := by
      have h2 := OwnRs.length MA.O
      have h3 := congrArg List.length HA.out
      have h4 := HE.out.2.2.2.1
      rw [List.length_map] at h3
      omega
    have hrA : ∀ r ∈ rA, r.n ≤ 1000 := fun r hr => by
      have h2 : r.l ∈ FF := HA.out ▸ List.mem_map_of_mem (f := fun x : Rw => x.l) hr
      have h3 := HE.out.2.2.2.2.1 _ h2
      have h4 := (MA.F r hr).1.len
      omega
    have hgr := grows_any (some ⟨gK, 0, none⟩) 7 7 [2, 2, 2, 2, 2, 2, 2] aA nA cA rA (some ⟨gB3, 0, none⟩) 1 1 [0] (some ⟨gG3, 0, none⟩) 5 5 again w5 (At.cs15 (xs := bcells [2, 2, 2, 2, 2, 2, 2]) zk) rfl (by decide) (by decide) ⟨Own.cs MA.O, fun r hr => (MA.F r hr).1⟩ (OwnRs.length MA.O) (owns_le MA.O.1) (owns_max MA.O.1) (by omega) hrA (At.cs15 (xs := icells [0]) zb) rfl (by decide) (by decide) (by decide) (At.cs15 (xs := agcells again) zg) rfl (by decide) (by decide) (by decide)
    rw [HA.out, HE.out.2.2.1] at hgr
    clear hnA hrA zb zk zg MA hleA hmxA
    have HGR := Lib.hid hgr
    clear hgr
    refine HGR.out.mono ?_
    rintro e w6 ⟨aC, nC, cC, rC, rfl, MC, hC⟩
    simp only at hC ⊢
    clear HGR
    have bt := Own.below MC.O
    replace b0 := Below.next b0 bt
    replace MB := OutM.below MB bt
    clear bt
    have HC := Lib.hid hC
    clear hC
    have hleC := owns_le MC.O.1
    have hmxC : cC ≤ 9223372036854775807 := owns_max MC.O.1
    have hSR := samerows_any aB nB cB rB aC nC cC rC w6 ⟨Own.cs MB.O, fun r hr => (MB.F r hr).1⟩ ⟨Own.cs MC.O, fun r hr => (MC.F r hr).1⟩ (OwnRs.length MB.O) (OwnRs.length MC.O) hleB hleC hmxB hmxC
    rw [HB.out, HC.out, decide_eq_true rfl] at hSR
    have HSR := Lib.hid hSR
    clear hSR HB HC MB MC HA HE
    go_wp2_with (first | (at_make; refine Stop.un ?_) | (at_builtin; refine Stop.un ?_) | (with_reducible refine Stop.conv 22 9 ?_) | (with_reducible refine Stop.conv 9 22 ?_))
    refine HSR.out.mono ?_
    rintro e w9 ⟨rfl, bt⟩
    replace b0 := b0.next bt
    clear bt HSR
    go_wp2_with (first | (at_make; refine Stop.un ?_) | (at_builtin; refine Stop.un ?_) | (with_reducible refine Stop.conv 22 9 ?_) | (with_reducible refine Stop.conv 9 22 ?_))
    go_ret
    exact ⟨by first | rfl | simp, b0⟩
end Go.Proofs.Ytbiniecjenencaa
