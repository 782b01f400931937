/- LosersPlay. -/
import Derived.Test.YtfhlbiddhgkcpaaLosD
import Derived.Test.YtfhlbiddhgkcpaaLosR
import Derived.Deep.DeepCutAuto
import Derived.Deep.CutBlock
set_option linter.unusedVariables false
set_option linter.unusedSimpArgs false
namespace Go.Proofs.Ytfhlbiddhgkcpaa
open Go.RowKit
/-- What lies where while the tree is played. -/
structure PlM (w0 : World) (tr : Tr) (gW k cW : Nat) (ks : List Ky) (h : Nat) (Ws H : List Rw) (q : Nat) (S : List Nat) (v : Nat) (A : Nat → Prop) (w : World) : Prop where
  O : OwnRs w0 w (.slice (some ⟨gW, 0, none⟩) k cW) k Ws
  G : Gd tr H ks q A w h S v
  rows : ∀ r ∈ Ws, RowOk w r ∧ ∀ a, r.a = some a → a.block < w.heap.size ∧ a.block ≠ gW ∧ ¬ tr.mut a.block
structure PlF (w0 : World) (tr : Tr) (gW : Nat) : Prop where
  m : ∀ k, tr.mut k → w0.heap.size ≤ k ∧ k ≠ gW
  g : w0.heap.size ≤ gW
section
variable {w0 : World} {tr : Tr} {gW k cW : Nat} {ks : List Ky} {h : Nat} {Ws H : List Rw} {q : Nat} {S : List Nat} {v : Nat} {A : Nat → Prop} {w x : World}
theorem PlM.below (M : PlM w0 tr gW k cW ks h Ws H q S v A w) (b : Below w.heap.size w x) : PlM w0 tr gW k cW ks h Ws H q S v A x :=
  ⟨Own.keep M.O b, M.G.below b, fun r hr => ⟨(M.rows r hr).1.mono b, fun y hy => ⟨Nat.lt_of_lt_of_le ((M.rows r hr).2 y hy).1 b.size, ((M.rows r hr).2 y hy).2⟩⟩⟩
theorem PlM.more {A' : Nat → Prop} (M : PlM w0 tr gW k cW ks h Ws H q S v A w) (b : Below w.heap.size w x) (hA : ∀ k, A' k → (A k ∨ w.heap.size ≤ k) ∧ k < x.heap.size) : PlM w0 tr gW k cW ks h Ws H q S v A' x :=
  ⟨(M.below b).O, M.G.more b hA, (M.below b).rows⟩
theorem PlM.put (F : PlF w0 tr gW) (M : PlM w0 tr gW k cW ks h Ws H q S v A w) (o : Oth tr.mut w x) {H' : List Rw} {q' : Nat} {S' : List Nat} {v' : Nat} (G' : Gd tr H' ks q' A x h S' v') : PlM w0 tr gW k cW ks h Ws H' q' S' v' A x :=
  ⟨Own.oth M.O o (fun k hk hm => (F.m k hm).2 (Option.some.inj hk).symm) (fun k hm => (F.m k hm).1), G', fun r hr => ⟨o.row (M.rows r hr).1 (fun y hy => ((M.rows r hr).2 y hy).2.2), fun y hy => ⟨Nat.lt_of_lt_of_le ((M.rows r hr).2 y hy).1 o.size, ((M.rows r hr).2 y hy).2⟩⟩⟩
theorem PlM.store (M : PlM w0 tr gW k cW ks h Ws H q S v A w) (hA : A gW) (i : Nat) (r : Rw) (ro : RowOk w r) (rb : ∀ a, r.a = some a → a.block < w.heap.size ∧ a.block ≠ gW ∧ ¬ tr.mut a.block) :
    PlM w0 tr gW k cW ks h (Ws.set i r) H q S v A (w.setCell ⟨gW, i, none⟩ (.slice r.a r.n r.cap)) := by
  have o : Oth (fun k => k = gW) w (w.setCell ⟨gW, i, none⟩ (.slice r.a r.n r.cap)) := (Oth.refl _ w).set _ _ (.inl rfl)
  refine ⟨?_, M.G.oth o (fun k _ hk => hk ▸ hA), fun y hy => ?_⟩
  · have h1 : OwnRs w0 (w.setCell ⟨gW, i, none⟩ (.slice r.a r.n r.cap)) (.slice (some ⟨gW, 0, none⟩) k cW) k (Ws.set i r) := by
      have h2 : Own w0 (w.setCell ⟨gW, i, none⟩ (.slice r.a r.n r.cap)) 26 1 (.slice (some ⟨gW, 0, none⟩) k cW) k ((rwcells Ws).set i (.slice r.a r.n r.cap)) := ⟨(M.O.1.stored i _).1, M.O.2.setCell (p := ⟨gW, i, none⟩) (Own.ge M.O gW rfl) _⟩
      rwa [show (rwcells Ws).set i (.slice r.a r.n r.cap) = rwcells (Ws.set i r) by simp [rwcells, List.map_set, Rw.sl]] at h2
    exact h1
  · have hy2 : RowOk w y ∧ ∀ a, y.a = some a → a.block < w.heap.size ∧ a.block ≠ gW ∧ ¬ tr.mut a.block := by
      rcases List.mem_or_eq_of_mem_set hy with h1 | h1
      · exact M.rows y h1
      · rw [h1]; exact ⟨ro, rb⟩
    exact ⟨o.row hy2.1 (fun a ha => (hy2.2 a ha).2.1), fun a ha => ⟨Nat.lt_of_lt_of_le (hy2.2 a ha).1 o.size, (hy2.2 a ha).2⟩⟩
/-- A store into a block that is not the tree's nor a row's. -/
theorem PlM.off (M : PlM w0 tr gW k cW ks h Ws H q S v A w) {gN : Nat} (hA : A gN) (hW : gN ≠ gW) (h0 : w0.heap.size ≤ gN) (hr : ∀ r ∈ Ws, ∀ a, r.a = some a → a.block ≠ gN) (i : Nat) (u : Value) : PlM w0 tr gW k cW ks h Ws H q S v A (w.setCell ⟨gN, i, none⟩ u) := by
  have o : Oth (fun k => k = gN) w (w.setCell ⟨gN, i, none⟩ u) := (Oth.refl _ w).set _ _ (.inl rfl)
  exact ⟨Own.oth M.O o (fun k hk e => hW (e.symm.trans (Option.some.inj hk).symm)) (fun k hk => hk ▸ h0), M.G.oth o (fun k _ hk => hk ▸ hA), fun r hr2 => ⟨o.row (M.rows r hr2).1 (fun a ha => hr r hr2 a ha), fun a ha => ⟨Nat.lt_of_lt_of_le ((M.rows r hr2).2 a ha).1 o.size, ((M.rows r hr2).2 a ha).2⟩⟩⟩
end
/-- append of a row's values to no row. -/
theorem app_nr {w : World} {ops : Array Oper} {rest : List Oper} {o : Oper} {a : Act} {Q : Exit → Act → World → Prop} (s x : Operand)
    (hgd : Region.wanted o (yielded ops a.tmps) = true) (ho : o.op = .call { callee := .builtin .append, args := #[s, x], argTypes := #[26, 26] })
    (hs : a.eval s = .slice none 0 0)
    {ao : Option Addr} {m cap : Nat} {news : List V} (hx : a.eval x = .slice ao m cap) (hm : news.length = m) (hc : Cs w ao (vcells news)) (hb : m * 32 ≤ 140737488355328)
    (h : ∀ ao cap w', OwnV w w' (.slice ao m cap) m news → (ao = none ↔ m = 0) → wpList Try.prog ops Q rest (a.put o.dst (.slice ao m cap)) w') :
    wpList Try.prog ops Q (o :: rest) a w :=
  wpList_append_Own w 38 (.agg #[.int .u8 0, .int .i64 0, .string ⟨#[]⟩]) 3 32 Try.infoV rfl (by decide) s x 26 26 Try.underlying26 hgd ho _ 0 [] (Own.nil _ _ (Below.refl _ _)) hs _ m (vcells news) hx
    (Src.ofCs Try.underlying26 hc (by rw [vcells_length, hm]) (vcells_one _)) (by omega) (by omega) (fun ao cap w' h1 _ h3 _ => by
      simp only [Nat.zero_add, List.nil_append] at h1 ⊢
      exact h ao cap w' h1 (by simpa using h3))
/-- append of rows to rows that have memory of their own. -/
theorem app_rwk {w : World} {ops : Array Oper} {rest : List Oper} {o : Oper} {a : Act} {Q : Exit → Act → World → Prop} (w0 : World) (s x : Operand)
    (hgd : Region.wanted o (yielded ops a.tmps) = true) (ho : o.op = .call { callee := .builtin .append, args := #[s, x], argTypes := #[22, 22] })
    {g c n : Nat} {l : List Rw} (hown : OwnRs w0 w (.slice (some ⟨g, 0, none⟩) n c) n l) (hs : a.eval s = .slice (some ⟨g, 0, none⟩) n c)
    {ao : Option Addr} {m cap : Nat} {news : List Rw} (hx : a.eval x = .slice ao m cap) (hm : news.length = m) (hc : Cs w ao (rwcells news)) (hb : (n + m) * 24 ≤ 140737488355328)
    (h : ∀ g' cap w', OwnRs w0 w' (.slice (some ⟨g', 0, none⟩) (n + m) cap) (n + m) (l ++ news) → w.grownBy w' (some g) → (g' = g ∨ w.heap.size ≤ g') → wpList Try.prog ops Q rest (a.put o.dst (.slice (some ⟨g', 0, none⟩) (n + m) cap)) w') :
    wpList Try.prog ops Q (o :: rest) a w :=
  wpList_append_Own w0 26 (.slice none 0 0) 1 24 Try.infoRow rfl (by decide) s x 22 22 Try.underlying22 hgd ho _ n (rwcells l) hown hs _ m (rwcells news) hx
    (Src.ofCs Try.underlying22 hc (by rw [rwcells_length, hm]; omega) (rwcells_one _)) hb (by omega) (fun ao cap w' h1 h2 h3 h4 => by
      rw [← rwcells_append] at h1
      rcases h1.1.2 with ⟨e, _⟩ | ⟨g', cap', cur, e, _⟩
      · simp only [Value.slice.injEq] at e
        have := (h3.1 e.1).1
        simp at this
      · simp only [Value.slice.injEq] at e
        obtain ⟨rfl, -, rfl⟩ := e
        refine h g' cap w' h1 h2 ?_
        rcases h4 g' rfl with h5 | h5
        · exact .inl (Option.some.inj h5).symm
        · exact .inr h5)
theorem rw_own {w w' : World} {a : Option Addr} {m c : Nat} {l : List V} (O : OwnV w w' (.slice a m c) m l) (hk : ∀ v ∈ l, 0 ≤ v.k) : RowOk w' ⟨a, m, c, l⟩ := ⟨Own.cs O, OwnV.length O, owns_le O.1, owns_max O.1, hk⟩
set_option maxRecDepth 100000 in
set_option maxHeartbeats 8000000 in
theorem losersPlay_any (a1 : Option Addr) (n1 c1 : Nat) (r1 : List Rw) (ak : Option Addr) (p ck : Nat) (ks : List Ky) (a3 : Option Addr) (n3 c3 : Nat) (r3 : List Rw) (w : World)
    (h1 : Tab w a1 r1) (l1 : r1.length = n1) (m1 : n1 ≤ c1) (cm1 : c1 ≤ maxLen)
    (hk : Cs w ak (kcells ks)) (hp : ks.length = p) (hlp : p ≤ ck) (hcm : ck ≤ maxLen)
    (h3 : Tab w a3 r3) (l3 : r3.length = n3) (m3 : n3 ≤ c3) (cm3 : c3 ≤ maxLen) :
    Calls Try.prog 3 #[.slice a1 n1 c1, .slice ak p ck, .slice a3 n3 c3] w (fun e w' => e = .returned (.bool true) ∧ Below w.heap.size w w') := by
  have HSK := Lib.hid (fun w => some_any16 ak p ck w hlp hcm)
  have HRW := Lib.hid (fun (r : Rw) W h => row_any16 r W h)
  have hkx : (ks.take (min p 10)).length = min p 10 := by simp; omega
  have kx := kcut hk (min p 10)
  have hkc : min p 10 ≤ ck := by omega
  have hk10 : min p 10 ≤ 10 := by omega
  generalize ks.take (min p 10) = kk at hkx kx
  generalize min p 10 = f at hkx hkc HSK hk10
  have HNW := Lib.hid (fun ab k cb (X : List Rw) W T hX hkc' hcm' hk16 hn kx => new_any ab k cb X ak f ck kk W T hX hkc' hcm' hk16 hn kx hkx hkc hcm (by omega))
  have HRN := Lib.hid (fun ab k cb (X : List Rw) W T hX hkc' hcm' kx => rnext_any ab k cb X ak f ck kk W T hX hkc' hcm' kx hkx hkc hcm)
  have HX1 := Lib.hid (And.intro l1 l3)
  have HKX := Lib.hid (And.intro h3 kx)
  unfold maxLen at cm1 cm3
  clear hp hk hkx l1 l3 h3 kx
  go_enter Try.func3, Try.ntmps3
  go_wp2_with (first | (at_make; refine Stop.un ?_) | (at_builtin; refine Stop.un ?_))
  refine (shown_any16 _).mono ?_
  rintro e wb ⟨rfl, b0⟩
  replace h1 := h1.mono b0
  go_upto_block 0 with fail
  go_cut [8, 9, 10] from 31 to 55 (fun xv _ _ wx => ∃ (k : Nat) (ab : Option Addr) (cb : Nat) (X : List Rw), k ≤ 18 ∧ xv = .slice ab k cb ∧ OwnRs wb wx (.slice ab k cb) k X ∧ Hid (∀ r ∈ X, r.n ≤ 20) ∧ Off wx (.slice ab k cb) X)
  case first =>
    go_wp2_with fail
    go_loopw [31, 8] (fun i v wr => ∃ (j : Nat) (ab : Option Addr) (cb : Nat) (X : List Rw), j ≤ n1 ∧ j ≤ 18 ∧ i = .int .i64 (j : Int) ∧ v = .slice ab j cb ∧ OwnRs wb wr (.slice ab j cb) j X ∧ Off wr (.slice ab j cb) X ∧ Hid (∀ r ∈ X, r.n ≤ 20)) (fun i _ _ => n1 - (intOf i).toNat)
    case atStart => exact ⟨0, none, 0, [], Nat.zero_le _, by omega, rfl, rfl, Own.nil _ _ (Below.refl _ _), (fun r hr => by cases hr), Lib.hid (fun r hr => by cases hr)⟩
    case round =>
      obtain ⟨j, ab, cb, X, hj, hj18, rfl, rfl, O, F, HX⟩ := hrel
      by_cases hlt : j < n1
      · have hjl : j < r1.length := by have := HX1.out.1; omega
        have t2 := h1.mono (Own.below O)
        obtain ⟨b, o, rfl⟩ := t2.cs.addr (by rw [rwcells_length]; omega)
        have x0 := t2.at hjl
        have rk := t2.ok r1[j] (List.getElem_mem _)
        generalize r1[j] = r at x0 rk
        have HR := Lib.hid (fun W h => HRW.out r W h)
        have hrle := rk.le
        have hrmx : r.cap ≤ 9223372036854775807 := rk.max
        clear hjl t2
        by_cases h18 : 18 ≤ j
        · have hd : decide ((18 : Int) ≤ (j : Int)) = true := decide_eq_true (by omega)
          clear rk HR
          go_wp2_with (first | (at_make; refine Stop.un ?_) | (at_builtin; refine Stop.un ?_))
          go_meet
          exact ⟨j, ab, cb, X, hj18, rfl, O, HX, F⟩
        · have hd : decide ((18 : Int) ≤ (j : Int)) = false := decide_eq_false (by omega)
          have H1 := Lib.hid (HR.out wr rk)
          clear HR
          go_wp2_with (first | (at_make; refine Stop.un ?_) | (at_builtin; refine Stop.un ?_))
          refine H1.out.mono ?_
          rintro e w2 ⟨rfl, b2⟩
          replace O := Own.keep O b2
          replace F := F.below b2
          replace rk := rk.mono b2
          clear H1 x0 b2
          cases hB : okR r with
          | false =>
            clear rk hB
            go_wp2_with (first | (at_make; refine Stop.un ?_) | (at_builtin; refine Stop.un ?_))
            go_meet
            exact ⟨j, ab, cb, X, hj18, rfl, O, HX, F⟩
          | true =>
            have hr20 := okR_n hB
            clear hB
            by_cases hn0 : 0 < r.n
            · have hd3 : decide ((0 : Int) < (r.n : Int)) = true := decide_eq_true (by omega)
              have hS : OwnV w2 (w2.alloc (.cells #[] 38)) (.slice (some ⟨w2.heap.size, 0, none⟩) 0 0) 0 [] := Own.block (Below.refl _ _) rfl (by decide)
              have hcs := rk.cs.alloc (.cells #[] 38)
              have HRK := Lib.hid (And.intro rk.len (And.intro rk.kind hr20))
              clear rk
              go_wp2_with (first | (at_make; refine Stop.un ?_) | (at_builtin; refine Stop.un ?_))
              refine Stop.mk (app_rs w2 _ _ rfl rfl hS rfl rfl HRK.out.1 hcs (by omega) ?_)
              intro a4 c4 w4 O4 g4 k4
              simp only [Nat.zero_add, List.nil_append] at O4 ⊢
              have bt := Own.below O4
              have q0 : RowOk w4 ⟨a4, r.n, c4, r.l⟩ := ⟨Own.cs O4, HRK.out.1, owns_le O4.1, owns_max O4.1, HRK.out.2.1⟩
              have F4 := F.below bt
              have O5 := Own.keep O bt
              have hq : ∀ a, (⟨a4, r.n, c4, r.l⟩ : Rw).a = some a → a.block < w4.heap.size ∧ (Value.slice ab j cb).ownBlock ≠ some a.block := fun a ha => by
                have ha2 : a4 = some a := ha
                have h1 := Own.ge O4 a.block (by rw [ha2]; rfl)
                have h2 := Own.lt O4 a.block (by rw [ha2]; rfl)
                exact ⟨h2, fun e => by have := Own.lt O _ e; omega⟩
              clear hS hcs g4 k4 O F O4 bt
              go_wp2_with (first | (at_make; refine Stop.un ?_) | (at_builtin; refine Stop.un ?_))
              refine Stop.mk (app_rw1 (r := ⟨a4, r.n, c4, r.l⟩) wb _ _ rfl rfl O5 rfl rfl (by omega) ?_)
              intro a6 c6 w6 O6 g6 k6
              have F6 : Off w6 (.slice a6 (j + 1) c6) (X ++ [⟨a4, r.n, c4, r.l⟩]) := Off.grown (v := .slice ab j cb) (fun x hx => by
                rcases List.mem_append.1 hx with hx | hx
                · exact F4 x hx
                · rw [List.mem_singleton.1 hx]; exact ⟨q0, hq⟩) g6 k6
              have HX2 : Hid (∀ y ∈ X ++ [(⟨a4, r.n, c4, r.l⟩ : Rw)], y.n ≤ 20) := Lib.hid (fun y hy => by
                rcases List.mem_append.1 hy with hy | hy
                · exact HX.out y hy
                · rw [List.mem_singleton.1 hy]; exact HRK.out.2.2)
              clear O5 g6 k6 F4 q0 hq HX HRK
              go_wp2_with (first | (at_make; refine Stop.un ?_) | (at_builtin; refine Stop.un ?_))
              go_roundw
              case rel => exact ⟨j + 1, a6, c6, _, by omega, by omega, by go_num, rfl, O6, F6, HX2⟩
              case measure => simp [intOf]; omega
            · have hd3 : decide ((0 : Int) < (r.n : Int)) = false := decide_eq_false (by omega)
              clear rk
              go_wp2_with (first | (at_make; refine Stop.un ?_) | (at_builtin; refine Stop.un ?_))
              refine Stop.mk (app_rw1 (r := nilRw) wb _ _ rfl rfl O rfl rfl (by omega) ?_)
              intro a6 c6 w6 O6 g6 k6
              have F6 : Off w6 (.slice a6 (j + 1) c6) (X ++ [nilRw]) := Off.grown (v := .slice ab j cb) (fun x hx => by
                rcases List.mem_append.1 hx with hx | hx
                · exact F x hx
                · rw [List.mem_singleton.1 hx]; exact ⟨nilRw_ok _, fun a ha => by cases ha⟩) g6 k6
              have HX2 : Hid (∀ y ∈ X ++ [nilRw], y.n ≤ 20) := Lib.hid (fun y hy => by
                rcases List.mem_append.1 hy with hy | hy
                · exact HX.out y hy
                · rw [List.mem_singleton.1 hy]; exact Nat.zero_le _)
              clear O g6 k6 F HX
              go_wp2_with (first | (at_make; refine Stop.un ?_) | (at_builtin; refine Stop.un ?_))
              go_roundw
              case rel => exact ⟨j + 1, a6, c6, _, by omega, by omega, by go_num, rfl, O6, F6, HX2⟩
              case measure => simp [intOf]; omega
      · go_wp2_with (first | (at_make; refine Stop.un ?_) | (at_builtin; refine Stop.un ?_))
        go_meet
        exact ⟨j, ab, cb, X, hj18, rfl, O, HX, F⟩
  case rest =>
    obtain ⟨k, ab, cb, X, hk18, rfl, O, HX, F⟩ := hcut
    have T : Tab wc ab X := ⟨Own.cs O, fun r hr => (F r hr).1⟩
    have bx := b0.next (Own.below O)
    have hle := owns_le O.1
    have hmx : cb ≤ 9223372036854775807 := owns_max O.1
    have hXl : X.length = k := OwnRs.length O
    have kx := HKX.out.2.mono bx (Nat.le_refl _)
    by_cases hk16 : 16 < k
    · have hd : decide ((16 : Int) < (k : Int)) = true := decide_eq_true (by omega)
      have HNL := Lib.hid (new_long ab k cb ak f ck wc hk16 hle hmx)
      clear O F T kx HNW h1
      go_wp2_with (first | (at_make; refine Stop.un ?_) | (at_builtin; refine Stop.un ?_))
      refine (HSK.out _).mono ?_
      rintro e w1 ⟨rfl, rfl⟩
      go_wp2_with (first | (at_make; refine Stop.un ?_) | (at_builtin; refine Stop.un ?_))
      refine HNL.out.mono ?_
      rintro e w2 ⟨rfl, b2⟩
      have b3 := bx.next b2
      clear HNL
      go_wp2_with (first | (at_make; refine Stop.un ?_) | (at_builtin; refine Stop.un ?_))
      go_ret
      exact ⟨by first | rfl | simp, b3⟩
    · have hd : decide ((16 : Int) < (k : Int)) = false := decide_eq_false (by omega)
      have HN1 := Lib.hid (HNW.out ab k cb X wc T hXl hle hmx (by omega) (fun r hr => by have := HX.out r hr; omega) kx)
      have HXB : Hid (∀ r ∈ X, ∀ a, r.a = some a → a.block < wc.heap.size) := Lib.hid (fun r hr a ha => ((F r hr).2 a ha).1)
      have HXL := Lib.hid hXl
      clear O F kx HNW h1 hXl HX
      go_wp2_with (first | (at_make; refine Stop.un ?_) | (at_builtin; refine Stop.un ?_))
      refine (HSK.out _).mono ?_
      rintro e w1 ⟨rfl, rfl⟩
      go_wp2_with (first | (at_make; refine Stop.un ?_) | (at_builtin; refine Stop.un ?_))
      refine HN1.out.mono ?_
      rintro e wT ⟨tr, H, q, h, S, v, rfl, G, hH, hq, -, bN, hm, -⟩
      have TT := T.mono bN
      have bT := bx.next bN
      have h4 := G.h4
      have hml : ∀ k, tr.mut k → k < wT.heap.size := fun k hk => by
        rcases hk with rfl | rfl | ⟨y, e, rfl⟩
        · exact G.T.z.lt
        · exact G.T.zs.lt
        · exact (G.T.hh.lt _ (by rw [e]; rfl)).2
      have HMM := Lib.hid (And.intro hm hml)
      have HH := Lib.hid hH
      have hS : OwnRs w (wT.alloc (.cells #[] 26)) (.slice (some ⟨wT.heap.size, 0, none⟩) 0 0) 0 [] := Own.block bT rfl (by decide)
      have hcs := TT.cs.alloc (.cells #[] 26)
      have hq0 : q ≤ 16 := by omega
      have HBS := Lib.hid (And.intro bx.size (And.intro bN.size (And.intro bT hq0)))
      clear hm hml hH hq hq0 HN1 T bx bN
      go_wp2_with (first | (at_make; refine Stop.un ?_) | (at_builtin; refine Stop.un ?_))
      refine Stop.mk (app_rwk w _ _ rfl rfl hS rfl rfl HXL.out hcs (by omega) ?_)
      intro gW cW w5 O5 g5 k5
      simp only [Nat.zero_add, List.nil_append] at O5 ⊢
      have hgW : wT.heap.size ≤ gW := by
        rcases k5 with k5 | k5
        · omega
        · have : (wT.alloc (.cells #[] 26)).heap.size = wT.heap.size + 1 := by simp
          omega
      have b5 : Below wT.heap.size wT w5 := ((Below.refl wT.heap.size wT).alloc (Nat.le_refl _) (.cells #[] 26)).one g5 (Nat.le_refl _) (Nat.le_refl _)
      have hgl : gW < w5.heap.size := Own.lt O5 gW rfl
      have F5 : PlF w tr gW := ⟨fun y hy => ⟨Nat.le_trans HBS.out.1 (HMM.out.1 y hy), by have := HMM.out.2 y hy; omega⟩, by have := HBS.out; omega⟩
      have M : PlM w tr gW k cW kk h X H q S v (fun y => y < wc.heap.size ∨ y = gW) w5 := ⟨O5, G.more b5 (fun y hy => by
        have := HBS.out.2.1
        have := b5.size
        rcases hy with h1 | h1
        · exact ⟨.inl h1, by omega⟩
        · exact ⟨.inr (by omega), by omega⟩), fun r hr => ⟨(TT.ok r hr).mono b5, fun a ha => by
        have h1 := HXB.out r hr a ha
        have h2 := HBS.out.2.1
        have h3 := b5.size
        exact ⟨by omega, by omega, fun hmu => by have := HMM.out.1 _ hmu; omega⟩⟩⟩
      have HF := Lib.hid F5
      have HWN : Hid (wc.heap.size ≤ wc.heap.size) := Lib.hid (Nat.le_refl _)
      have HHW : Hid (hds X = hds H) := Lib.hid HH.out.symm
      have HQ0 : Hid (q ≤ 16 + 4 * 0) := Lib.hid (by have := HBS.out.2.2.2; omega)
      clear hS hcs O5 g5 k5 b5 G TT bT F5 HH HXB
      go_upto_block 2 with fail
      go_cut [15, 16, 17, 18, 19, 20, 21, 22, 23] from 87 to 157 (fun _ _ _ _ _ _ _ _ _ wx => ∃ (Ws H : List Rw) (q : Nat) (S : List Nat) (v : Nat), PlM w tr gW k cW kk h Ws H q S v (fun y => y < wc.heap.size ∨ y = gW) wx ∧ Hid (hds Ws = hds H))
      case first =>
        go_wp2_with fail
        go_loopw [87] (fun iv wr => ∃ (i : Nat) (Ws H : List Rw) (q : Nat) (S : List Nat) (v : Nat), i ≤ n3 ∧ i ≤ 60 ∧ iv = .int .i64 (i : Int) ∧ PlM w tr gW k cW kk h Ws H q S v (fun y => y < wc.heap.size ∨ y = gW) wr ∧ Hid (hds Ws = hds H) ∧ Hid (q ≤ 16 + 4 * i)) (fun iv _ => n3 - (intOf iv).toNat)
        case atStart => exact ⟨0, X, H, q, S, v, Nat.zero_le _, by omega, rfl, M, HHW, HQ0⟩
        case round =>
          clear M HHW HQ0
          obtain ⟨i, Ws, H, q, S, v, hi, hi60, rfl, M, HHW, HQ⟩ := hrel
          by_cases hlt : i < n3
          · have hjl : i < r3.length := by have := HX1.out.2; omega
            have t2 := HKX.out.1.mono (Own.below M.O)
            obtain ⟨b, o, rfl⟩ := t2.cs.addr (by rw [rwcells_length]; omega)
            have x0 := t2.at hjl
            have rk := t2.ok r3[i] (List.getElem_mem _)
            generalize r3[i] = r at x0 rk
            have hrle := rk.le
            have hrmx : r.cap ≤ 9223372036854775807 := rk.max
            have HR := Lib.hid (HRW.out r wr rk)
            clear hjl t2
            by_cases h60 : 60 ≤ i
            · have hd6 : decide ((60 : Int) ≤ (i : Int)) = true := decide_eq_true (by omega)
              clear rk HR
              go_wp2_with (first | (at_make; refine Stop.un ?_) | (at_builtin; refine Stop.un ?_))
              go_meet
              exact ⟨Ws, H, q, S, v, M, HHW⟩
            · have hd6 : decide ((60 : Int) ≤ (i : Int)) = false := decide_eq_false (by omega)
              go_wp2_with (first | (at_make; refine Stop.un ?_) | (at_builtin; refine Stop.un ?_))
              refine HR.out.mono ?_
              rintro e w2 ⟨rfl, b2⟩
              replace M := M.below b2
              replace rk := rk.mono b2
              clear HR x0 b2
              cases hB : okR r with
              | false =>
                clear rk hB
                go_wp2_with (first | (at_make; refine Stop.un ?_) | (at_builtin; refine Stop.un ?_))
                go_meet
                exact ⟨Ws, H, q, S, v, M, HHW⟩
              | true =>
                have hr20 := okR_n hB
                have HNX := Lib.hid (next_any _ _ _ _ _ _ _ _ _ M.G)
                clear hB
                go_wp2_with (first | (at_make; refine Stop.un ?_) | (at_builtin; refine Stop.un ?_))
                refine HNX.out.mono ?_
                rintro e w3 ⟨rfl, b3⟩
                replace M := M.below b3
                replace rk := rk.mono b3
                have HRX := Lib.hid (HRN.out (some ⟨gW, 0, none⟩) k cW Ws w3 ⟨Own.cs M.O, fun r hr => (M.rows r hr).1⟩ (OwnRs.length M.O) (owns_le M.O.1) (owns_max M.O.1) (HKX.out.2.mono (Own.below M.O) (Nat.le_refl _)))
                clear HNX b3
                rw [nextV_eq]
                go_wp2_with (first | (at_make; refine Stop.un ?_) | (at_builtin; refine Stop.un ?_))
                refine HRX.out.mono ?_
                rintro e w4 ⟨rfl, b4⟩
                replace M := M.below b4
                replace rk := rk.mono b4
                rw [HHW.out]
                clear HRX b4
                rw [nextV_eq]
                have HOW : Hid (∀ y, nxt kk (hds H) = some y → y < k) := Lib.hid (fun y hy => by
                  have h1 := (nxt_is kk _ hy).2.1
                  rw [← HHW.out, hds_length, OwnRs.length M.O] at h1
                  exact h1)
                have hrk := rk.len
                have hrkd := rk.kind
                have HRK := Lib.hid (And.intro hrk hrkd)
                have HB4 : Hid (∀ y ∈ Ws, ∀ a, y.a = some a → a.block < w4.heap.size) := Lib.hid (fun y hy a ha => ((M.rows y hy).2 a ha).1)
                clear hrk hrkd
                by_cases hn0 : 0 < r.n
                ·
                  have hd3 : decide ((0 : Int) < (r.n : Int)) = true := decide_eq_true (by omega)
                  have hS : OwnV w4 (w4.alloc (.cells #[] 38)) (.slice (some ⟨w4.heap.size, 0, none⟩) 0 0) 0 [] := Own.block (Below.refl _ _) rfl (by decide)
                  have hcs := rk.cs.alloc (.cells #[] 38)
                  clear rk
                  obtain ⟨ra, rn, rc, rl⟩ := r
                  simp only at hn0 hr20 hrle hrmx HRK hd3 hcs
                  go_wp2_with (first | (at_make; refine Stop.un ?_) | (at_builtin; refine Stop.un ?_))
                  refine Stop.mk (app_rsk w4 _ _ rfl rfl hS rfl rfl HRK.out.1 hcs (by omega) ?_)
                  intro gN dN w5 O5 g5 k5
                  simp only [Nat.zero_add, List.nil_append] at O5 ⊢
                  have b5 := Own.below O5
                  have hgN := Own.ge O5 gN rfl
                  have hgNl := Own.lt O5 gN rfl
                  have rN : RowOk w5 ⟨some ⟨gN, 0, none⟩, rn, dN, rl⟩ := rw_own O5 HRK.out.2
                  have ON := Own.up O5 (Own.below M.O)
                  have hgWl := Own.lt M.O gW rfl
                  have hsM := M.O.2.size
                  have hTs : wT.heap.size ≤ w4.heap.size := by omega
                  have HGE : Hid (w4.heap.size ≤ gN) := Lib.hid hgN
                  have HGT : Hid (wT.heap.size ≤ w4.heap.size) := Lib.hid hTs
                  have HGN : Hid (gN ≠ gW ∧ w.heap.size ≤ gN) := Lib.hid ⟨by omega, by omega⟩
                  replace M : PlM w tr gW k cW kk h Ws H q S v (fun y => (y < wc.heap.size ∨ y = gW) ∨ y = gN) w5 := M.more b5 (fun y hy => by
                    rcases hy with h1 | h1
                    · exact ⟨.inl h1, Nat.lt_of_lt_of_le (M.G.T.inA y h1) b5.size⟩
                    · exact ⟨.inr (by omega), by omega⟩)
                  clear hS hcs g5 k5 O5 b5 hgN hgNl hgWl hsM hTs
                  cases hnx : nxt kk (hds H) with
                  | none =>
                    have hpt := put_none _ _ _ _ _ _ _ _ _ M.G ⟨some ⟨gN, 0, none⟩, rn, dN, rl⟩ hnx
                    have HPT := Lib.hid hpt
                    unfold whoOf okOf
                    clear hpt hnx
                    go_wp2_with (first | (at_make; refine Stop.un ?_) | (at_builtin; refine Stop.un ?_))
                    refine HPT.out.mono ?_
                    rintro e w6 ⟨rfl, b6⟩
                    replace M := M.below b6
                    replace ON := Own.keep ON b6
                    have HQF : Hid (q ≤ 16 + 4 * (i + 1)) := Lib.hid (by have := HQ.out; omega)
                    have HHF := HHW
                    clear HPT b6
                    have HNB : Hid (∀ y ∈ Ws, ∀ a, y.a = some a → a.block ≠ gN) := Lib.hid (fun y hy a ha => by have := HB4.out y hy a ha; have := HGE.out; omega)
                    skip
                    go_wp2_with (first | (at_make; refine Stop.un ?_) | (at_builtin; refine Stop.un ?_))
                    go_loopw [149] (fun cv wr => ∃ (c : Nat) (xs : List Value), c ≤ rn ∧ cv = .int .i64 (c : Int) ∧ PlM w tr gW k cW kk h Ws H q S v (fun y => (y < wc.heap.size ∨ y = gW) ∨ y = gN) wr ∧ Own w wr 38 3 (.slice (some ⟨gN, 0, none⟩) rn dN) rn xs) (fun cv _ => rn - (intOf cv).toNat)
                    case atStart => exact ⟨0, _, Nat.zero_le _, rfl, M, ON⟩
                    case round =>
                      clear M ON
                      obtain ⟨c, xs, hc, rfl, M, ON⟩ := hrel
                      by_cases hlc : c < rn
                      ·
                        have hxl := ON.1.1
                        have f5 := ON.1.frozenAt (c * 3 + 1)
                        have c5 := ON.1.cellAt (c * 3 + 1) (by omega)
                        rw [List.getElem?_eq_getElem (show c * 3 + 1 < xs.length by omega)] at c5
                        have cl5 := lt_cell c5
                        have M2 := M.off (gN := gN) (.inr rfl) HGN.out.1 HGN.out.2 HNB.out (c * 3 + 1) (.int .i64 (-77))
                        have ON2 : Own w (wr.setCell ⟨gN, c * 3 + 1, none⟩ (.int .i64 (-77))) 38 3 (.slice (some ⟨gN, 0, none⟩) rn dN) rn (xs.set (c * 3 + 1) (.int .i64 (-77))) := ⟨(ON.1.stored (c * 3 + 1) _).1, ON.2.setCell (p := ⟨gN, c * 3 + 1, none⟩) HGN.out.2 _⟩
                        replace c5 : ∃ x9, wr.cell? ⟨gN, c * 3 + 1, none⟩ = some x9 := ⟨_, c5⟩
                        obtain ⟨x9, c5⟩ := c5
                        clear M ON hxl
                        go_wp2_with (first | (at_make; refine Stop.un ?_) | (at_builtin; refine Stop.un ?_))
                        go_roundw
                        case rel => exact ⟨c + 1, _, by omega, by go_num, M2, ON2⟩
                        case measure => simp [intOf]; omega
                      ·
                        obtain rfl : c = rn := by omega
                        have M2 : PlM w tr gW k cW kk h _ H q S v (fun y => y < wc.heap.size ∨ y = gW) wr := M.more (Below.refl _ _) (fun y hy => ⟨.inl (.inl hy), M.G.T.inA y (.inl hy)⟩)
                        clear M ON
                        go_wp2_with (first | (at_make; refine Stop.un ?_) | (at_builtin; refine Stop.un ?_))
                        go_roundw
                        case rel => exact ⟨i + 1, _, H, q, S, v, by omega, by omega, by go_num, M2, HHF, HQF⟩
                        case measure => simp [intOf]; omega
                  | some who =>
                    have hwk := HOW.out who hnx
                    have hpt := put_some _ _ _ _ _ _ _ _ _ M.G ⟨some ⟨gN, 0, none⟩, rn, dN, rl⟩ who hnx rN (show rn ≤ 1000000 by omega) (by have := HQ.out; omega)
                    have HPT := Lib.hid hpt
                    unfold whoOf okOf
                    clear hpt hnx
                    go_wp2_with (first | (at_make; refine Stop.un ?_) | (at_builtin; refine Stop.un ?_))
                    refine HPT.out.mono ?_
                    rintro e w6 ⟨rfl, H', q', S', v', G', hH', hq', o6⟩
                    have M6 := M.put HF.out o6 G'
                    have ON6 := Own.oth ON o6 (fun y hy hm => by have h1 := HMM.out.2 y hm; have h2 : some gN = some y := hy; have h3 := Option.some.inj h2; have := HGE.out; have := HGT.out; omega) (fun y hm => (HF.out.m y hm).1)
                    have HHP := Lib.hid hH'
                    have HQF : Hid (q' ≤ 16 + 4 * (i + 1)) := Lib.hid (by have := HQ.out; omega)
                    have hs6 := M.O.2.size
                    have hse := o6.size
                    have csN := Own.cs ON6
                    clear HPT G' hH' hq' o6 M ON
                    have hgn6 : gN < w6.heap.size := Own.lt ON6 gN rfl
                    have hgw6 : gW < w6.heap.size := Own.lt M6.O gW rfl
                    have hmu6 : ∀ y, tr.mut y → y < w6.heap.size := fun y hy => by
                      have h1 := HMM.out.2 y hy
                      omega
                    go_wp2_with (first | (at_make; refine Stop.un ?_) | (at_builtin; refine Stop.un ?_))
                    refine Stop.mk (app_nr _ _ rfl rfl rfl (news := rl) rfl HRK.out.1 csN (by omega) ?_)
                    intro a9 c9 w9 O9 hn9
                    have b9 := Own.below O9
                    replace M6 := M6.below b9
                    replace ON6 := Own.keep ON6 b9
                    clear csN
                    have q9 : RowOk w9 ⟨a9, rn, c9, rl⟩ := rw_own O9 HRK.out.2
                    have B9 : ∀ a, (⟨a9, rn, c9, rl⟩ : Rw).a = some a → w6.heap.size ≤ a.block ∧ a.block < w9.heap.size := fun a ha => by
                      have ha2 : a9 = some a := ha
                      exact ⟨Own.ge O9 a.block (by rw [ha2]; rfl), Own.lt O9 a.block (by rw [ha2]; rfl)⟩
                    have M9 := M6.store (.inl (.inr rfl)) who ⟨a9, rn, c9, rl⟩ q9 (fun a ha => by
                      have h1 := B9 a ha
                      exact ⟨h1.2, by omega, fun hm => by have := hmu6 _ hm; omega⟩)
                    have f9 := M6.O.1.frozenAt who
                    have hWl : Ws.length = k := OwnRs.length M6.O
                    have c9x := M6.O.1.cellAt who (by omega)
                    rw [List.getElem?_eq_getElem (show who < (rwcells Ws).length by rw [rwcells_length]; omega)] at c9x
                    have cl9 := lt_cell c9x
                    have hlc9 := owns_le M6.O.1
                    have hmc9 : cW ≤ 9223372036854775807 := owns_max M6.O.1
                    have ON9 : Own w (w9.setCell ⟨gW, who, none⟩ (.slice a9 rn c9)) 38 3 (.slice (some ⟨gN, 0, none⟩) rn dN) rn (vcells rl) := Own.oth ON6 ((Oth.refl (fun y => y = gW) w9).set _ _ (.inl rfl)) (fun y hy e => by have h2 : some gN = some y := hy; have h3 := Option.some.inj h2; have h4 := HGN.out.1; omega) (fun y hy => by rw [hy]; exact HF.out.g)
                    have HHF : Hid (hds (Ws.set who ⟨a9, rn, c9, rl⟩) = hds H') := Lib.hid (by
                      rw [hds_set, HHP.out, HHW.out]
                      congr 1
                      cases e : a9 with
                      | none => exact absurd (hn9.1 e) (by omega)
                      | some _ => rfl)
                    have HNB : Hid (∀ y ∈ Ws.set who ⟨a9, rn, c9, rl⟩, ∀ a, y.a = some a → a.block ≠ gN) := Lib.hid (fun y hy a ha => by
                      rcases List.mem_or_eq_of_mem_set hy with h1 | h1
                      · have := HB4.out y h1 a ha; have := HGE.out; omega
                      · rw [h1] at ha; have := B9 a ha; omega)
                    replace c9x : ∃ x9, w9.cell? ⟨gW, who, none⟩ = some x9 := ⟨_, c9x⟩
                    obtain ⟨x9, c9x⟩ := c9x
                    clear M6 O9 b9 q9 B9 hn9 hWl HHP hs6 hse hgw6 hmu6 ON6 hgn6
                    have M := M9
                    have ON := ON9
                    clear M9 ON9
                    skip
                    go_wp2_with (first | (at_make; refine Stop.un ?_) | (at_builtin; refine Stop.un ?_))
                    go_loopw [149] (fun cv wr => ∃ (c : Nat) (xs : List Value), c ≤ rn ∧ cv = .int .i64 (c : Int) ∧ PlM w tr gW k cW kk h (Ws.set who ⟨a9, rn, c9, rl⟩) H' q' S' v' (fun y => (y < wc.heap.size ∨ y = gW) ∨ y = gN) wr ∧ Own w wr 38 3 (.slice (some ⟨gN, 0, none⟩) rn dN) rn xs) (fun cv _ => rn - (intOf cv).toNat)
                    case atStart => exact ⟨0, _, Nat.zero_le _, rfl, M, ON⟩
                    case round =>
                      clear M ON
                      obtain ⟨c, xs, hc, rfl, M, ON⟩ := hrel
                      by_cases hlc : c < rn
                      ·
                        have hxl := ON.1.1
                        have f5 := ON.1.frozenAt (c * 3 + 1)
                        have c5 := ON.1.cellAt (c * 3 + 1) (by omega)
                        rw [List.getElem?_eq_getElem (show c * 3 + 1 < xs.length by omega)] at c5
                        have cl5 := lt_cell c5
                        have M2 := M.off (gN := gN) (.inr rfl) HGN.out.1 HGN.out.2 HNB.out (c * 3 + 1) (.int .i64 (-77))
                        have ON2 : Own w (wr.setCell ⟨gN, c * 3 + 1, none⟩ (.int .i64 (-77))) 38 3 (.slice (some ⟨gN, 0, none⟩) rn dN) rn (xs.set (c * 3 + 1) (.int .i64 (-77))) := ⟨(ON.1.stored (c * 3 + 1) _).1, ON.2.setCell (p := ⟨gN, c * 3 + 1, none⟩) HGN.out.2 _⟩
                        replace c5 : ∃ x9, wr.cell? ⟨gN, c * 3 + 1, none⟩ = some x9 := ⟨_, c5⟩
                        obtain ⟨x9, c5⟩ := c5
                        clear M ON hxl
                        go_wp2_with (first | (at_make; refine Stop.un ?_) | (at_builtin; refine Stop.un ?_))
                        go_roundw
                        case rel => exact ⟨c + 1, _, by omega, by go_num, M2, ON2⟩
                        case measure => simp [intOf]; omega
                      ·
                        obtain rfl : c = rn := by omega
                        have M2 : PlM w tr gW k cW kk h _ H' q' S' v' (fun y => y < wc.heap.size ∨ y = gW) wr := M.more (Below.refl _ _) (fun y hy => ⟨.inl (.inl hy), M.G.T.inA y (.inl hy)⟩)
                        clear M ON
                        go_wp2_with (first | (at_make; refine Stop.un ?_) | (at_builtin; refine Stop.un ?_))
                        go_roundw
                        case rel => exact ⟨i + 1, _, H', q', S', v', by omega, by omega, by go_num, M2, HHF, HQF⟩
                        case measure => simp [intOf]; omega
                ·
                  have hd3 : decide ((0 : Int) < (r.n : Int)) = false := decide_eq_false (by omega)
                  clear rk
                  cases hnx : nxt kk (hds H) with
                  | none =>
                    have hpt := put_none _ _ _ _ _ _ _ _ _ M.G nilRw hnx
                    have HPT := Lib.hid hpt
                    unfold whoOf okOf
                    clear hpt hnx
                    go_wp2_with (first | (at_make; refine Stop.un ?_) | (at_builtin; refine Stop.un ?_))
                    refine HPT.out.mono ?_
                    rintro e w6 ⟨rfl, b6⟩
                    replace M := M.below b6
                    have HQF : Hid (q ≤ 16 + 4 * (i + 1)) := Lib.hid (by have := HQ.out; omega)
                    have HHF := HHW
                    clear HPT b6
                    go_wp2_with (first | (at_make; refine Stop.un ?_) | (at_builtin; refine Stop.un ?_))
                    refine wp_loop_rounds 1 ?_
                    rw [rounds_succ]
                    go_wp2_with (first | (at_make; refine Stop.un ?_) | (at_builtin; refine Stop.un ?_))
                    go_roundw
                    case rel => exact ⟨i + 1, Ws, H, q, S, v, by omega, by omega, by go_num, M, HHF, HQF⟩
                    case measure => simp [intOf]; omega
                  | some who =>
                    have hwk := HOW.out who hnx
                    have hpt := put_some _ _ _ _ _ _ _ _ _ M.G nilRw who hnx (nilRw_ok _) (Nat.zero_le _) (by have := HQ.out; omega)
                    have HPT := Lib.hid hpt
                    unfold whoOf okOf
                    clear hpt hnx
                    go_wp2_with (first | (at_make; refine Stop.un ?_) | (at_builtin; refine Stop.un ?_))
                    refine HPT.out.mono ?_
                    rintro e w6 ⟨rfl, H', q', S', v', G', hH', hq', o6⟩
                    have M6 := M.put HF.out o6 G'
                    have HHP := Lib.hid hH'
                    have HQF : Hid (q' ≤ 16 + 4 * (i + 1)) := Lib.hid (by have := HQ.out; omega)
                    have hs6 := M.O.2.size
                    have hse := o6.size
                    clear HPT G' hH' hq' o6 M 
                    have hgw6 : gW < w6.heap.size := Own.lt M6.O gW rfl
                    have hmu6 : ∀ y, tr.mut y → y < w6.heap.size := fun y hy => by
                      have h1 := HMM.out.2 y hy
                      omega
                    go_wp2_with (first | (at_make; refine Stop.un ?_) | (at_builtin; refine Stop.un ?_))
                    refine Stop.mk (app_nr _ _ rfl rfl rfl (news := []) rfl rfl (Cs.nil _ _) (by omega) ?_)
                    intro a9 c9 w9 O9 hn9
                    have b9 := Own.below O9
                    replace M6 := M6.below b9
                    have q9 : RowOk w9 ⟨a9, 0, c9, []⟩ := rw_own O9 (fun v h => by cases h)
                    have B9 : ∀ a, (⟨a9, 0, c9, []⟩ : Rw).a = some a → w6.heap.size ≤ a.block ∧ a.block < w9.heap.size := fun a ha => by
                      have ha2 : a9 = some a := ha
                      exact ⟨Own.ge O9 a.block (by rw [ha2]; rfl), Own.lt O9 a.block (by rw [ha2]; rfl)⟩
                    have M9 := M6.store (.inr rfl) who ⟨a9, 0, c9, []⟩ q9 (fun a ha => by
                      have h1 := B9 a ha
                      exact ⟨h1.2, by omega, fun hm => by have := hmu6 _ hm; omega⟩)
                    have f9 := M6.O.1.frozenAt who
                    have hWl : Ws.length = k := OwnRs.length M6.O
                    have c9x := M6.O.1.cellAt who (by omega)
                    rw [List.getElem?_eq_getElem (show who < (rwcells Ws).length by rw [rwcells_length]; omega)] at c9x
                    have cl9 := lt_cell c9x
                    have hlc9 := owns_le M6.O.1
                    have hmc9 : cW ≤ 9223372036854775807 := owns_max M6.O.1
                    have HHF : Hid (hds (Ws.set who ⟨a9, 0, c9, []⟩) = hds H') := Lib.hid (by
                      rw [hds_set, HHP.out, HHW.out]
                      congr 1
                      have : a9 = none := hn9.2 rfl
                      rw [this]
                      rfl)
                    replace c9x : ∃ x9, w9.cell? ⟨gW, who, none⟩ = some x9 := ⟨_, c9x⟩
                    obtain ⟨x9, c9x⟩ := c9x
                    clear M6 O9 b9 q9 B9 hn9 hWl HHP hs6 hse hgw6 hmu6 
                    go_wp2_with (first | (at_make; refine Stop.un ?_) | (at_builtin; refine Stop.un ?_))
                    refine wp_loop_rounds 1 ?_
                    rw [rounds_succ]
                    go_wp2_with (first | (at_make; refine Stop.un ?_) | (at_builtin; refine Stop.un ?_))
                    go_roundw
                    case rel => exact ⟨i + 1, _, H', q', S', v', by omega, by omega, by go_num, M9, HHF, HQF⟩
                    case measure => simp [intOf]; omega
          · go_wp2_with (first | (at_make; refine Stop.un ?_) | (at_builtin; refine Stop.un ?_))
            go_meet
            exact ⟨Ws, H, q, S, v, M, HHW⟩
      case rest =>
        clear M HHW HQ0
        obtain ⟨Ws, H, q, S, v, M, HHW⟩ := hcut
        have HNX := Lib.hid (next_any _ _ _ _ _ _ _ _ _ M.G)
        go_wp2_with (first | (at_make; refine Stop.un ?_) | (at_builtin; refine Stop.un ?_))
        refine HNX.out.mono ?_
        rintro e w3 ⟨rfl, b3⟩
        replace M := M.below b3
        have HRX := Lib.hid (HRN.out (some ⟨gW, 0, none⟩) k cW Ws w3 ⟨Own.cs M.O, fun r hr => (M.rows r hr).1⟩ (OwnRs.length M.O) (owns_le M.O.1) (owns_max M.O.1) (HKX.out.2.mono (Own.below M.O) (Nat.le_refl _)))
        clear HNX b3
        rw [nextV_eq]
        go_wp2_with (first | (at_make; refine Stop.un ?_) | (at_builtin; refine Stop.un ?_))
        refine HRX.out.mono ?_
        rintro e w4 ⟨rfl, b4⟩
        have b9 := (Own.below M.O).next b4
        rw [HHW.out, nextV_eq]
        clear HRX b4 M HHW
        generalize whoOf (nxt kk (hds H)) = A1
        generalize okOf (nxt kk (hds H)) = A2
        go_wp2_with (first | (at_make; refine Stop.un ?_) | (at_builtin; refine Stop.un ?_))
        go_ret
        exact ⟨by first | rfl | simp, b9⟩
end Go.Proofs.Ytfhlbiddhgkcpaa
