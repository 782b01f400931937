/- OrderKeeps. -/
import Derived.Test.YtoggjieagnlneaaOKeepX
import Derived.Test.YtoggjieagnlneaaORSort
import Derived.Test.YtoggjieagnlneaaOrderMore
import Derived.Test.YtoggjieagnlneaaOSame
set_option linter.unusedVariables false
set_option linter.unusedSimpArgs false
namespace Go.Proofs.Ytoggjieagnlneaa
open Go.RowKit
theorem Own.stored {w0 w : World} {e size n g cap : Nat} {xs : List Value} (h : Own w0 w e size (.slice (some ⟨g, 0, none⟩) n cap) n xs) (j : Nat) (u : Value) : Own w0 (w.setCell ⟨g, j, none⟩ u) e size (.slice (some ⟨g, 0, none⟩) n cap) n (xs.set j u) :=
  ⟨(h.1.stored j u).1, h.2.setCell (p := ⟨g, j, none⟩) (h.ge g rfl) _⟩
theorem OwnRs.at {w0 w : World} {n cap : Nat} {ao : Option Addr} {xs : List Rw} (h : OwnRs w0 w (.slice ao n cap) n xs) (hn : 0 < n) : ∃ g, ao = some ⟨g, 0, none⟩ ∧ w0.heap.size ≤ g ∧ g < w.heap.size := by
  obtain ⟨_, g, rfl, hg, _⟩ := owns_at h.1 hn
  exact ⟨g, rfl, hg, Own.lt h g rfl⟩
theorem Off.set {w : World} {g n cap : Nat} {rs : List Rw} (h : Off w (.slice (some ⟨g, 0, none⟩) n cap) rs) (j : Nat) (u : Value) : Off (w.setCell ⟨g, j, none⟩ u) (.slice (some ⟨g, 0, none⟩) n cap) rs := fun r hr => by
  obtain ⟨o, hb⟩ := h r hr
  have hx : RX w.heap.size (some g) w (w.setCell ⟨g, j, none⟩ u) := RX.set w ⟨g, j, none⟩ _ (.inr rfl)
  refine ⟨⟨hx.cs o.cs (fun a ha => ⟨(hb a ha).1, fun e => (hb a ha).2 (by rw [e]; rfl)⟩), o.len, o.le, o.max, o.kind⟩, fun a ha => ⟨Nat.lt_of_lt_of_le (hb a ha).1 hx.size, (hb a ha).2⟩⟩
set_option maxRecDepth 100000 in
theorem Try.info100 : (Try.prog.info? 38).map (fun i => (i.zero, i.size, i.bytes)) = some (some (.agg (hadA [])), 100, 100) := by kernel_rfl
theorem zero100 (w : World) : (zeroValue 38).run Try.prog w = .ok (.agg (hadA [])) w := by
  obtain ⟨i, hi, hz, hsize, hby⟩ := info_parts Try.info100
  simp [zeroValue, typeInfo, hi, hz, go_sem]
set_option maxRecDepth 100000 in
set_option maxHeartbeats 8000000 in
theorem orderKeeps_any (a1 : Option Addr) (n1 c1 : Nat) (r1 : List Rw) (ak : Option Addr) (p ck : Nat) (ks : List Ky) (w : World)
    (h1 : Tab w a1 r1) (l1 : r1.length = n1) (m1 : n1 ≤ c1) (cm1 : c1 ≤ maxLen)
    (hk : Cs w ak (kcells ks)) (hp : ks.length = p) (hlp : p ≤ ck) (hcm : ck ≤ maxLen) :
    Calls Try.prog 4 #[.slice a1 n1 c1, .slice ak p ck] w (fun e w' => e = .returned (.bool true) ∧ Below w.heap.size w w') := by
  have HF1 := Lib.hid (fun W (h : Tab W a1 r1) => few_any15 a1 n1 c1 r1 W h l1 m1 cm1)
  have HSK := Lib.hid (fun w => some_any15 ak p ck w hlp hcm)
  obtain ⟨t1, f1, f2, f3⟩ := few_take_ok h1
  have hfl1 : fewR 0 r1 ≤ c1 := by have := fewR_le r1 0; omega
  generalize r1.take (fewR 0 r1) = x at t1 f1 f3
  generalize fewR 0 r1 = nx at HF1 f1 f2 hfl1
  have hkx : (ks.take (min p 10)).length = min p 10 := by simp; omega
  have kx := kcut hk (min p 10)
  have hkc : min p 10 ≤ ck := by omega
  generalize ks.take (min p 10) = kk at hkx kx
  generalize min p 10 = f at hkx hkc HSK
  have HXL := Lib.hid (And.intro f1 (And.intro hfl1 (And.intro cm1 f3)))
  have HKL := Lib.hid (And.intro hkx (And.intro hkc hcm))
  clear l1 hp f1 f3 hkx cm1 hk hcm hlp m1
  go_enter Try.func4, Try.ntmps4
  have b0 : Below w.heap.size w w := Below.refl _ _
  go_wp2_with (first | (at_make; refine Stop.un ?_) | (at_builtin; refine Stop.un ?_))
  refine (shown_any15 _).mono ?_
  rintro e v1 ⟨rfl, bt⟩
  replace b0 := Below.next b0 bt
  replace h1 := Tab.mono h1 bt
  replace t1 := Tab.mono t1 bt
  replace kx := Cs.mono kx bt (Nat.le_refl _)
  clear bt
  go_wp2_with (first | (at_make; refine Stop.un ?_) | (at_builtin; refine Stop.un ?_))
  refine (HSK.out _).mono ?_
  rintro e v2 ⟨rfl, rfl⟩
  go_wp2_with (first | (at_make; refine Stop.un ?_) | (at_builtin; refine Stop.un ?_))
  refine (HF1.out _ h1).mono ?_
  rintro e v3 ⟨rfl, bt⟩
  replace b0 := Below.next b0 bt
  replace h1 := Tab.mono h1 bt
  replace t1 := Tab.mono t1 bt
  replace kx := Cs.mono kx bt (Nat.le_refl _)
  clear bt
  clear h1
  clear HSK HF1
  have hmn := HXL.out.2.1
  have hcx : c1 ≤ 9223372036854775807 := HXL.out.2.2.1
  go_wp2_with (first | (at_make; refine Stop.un ?_) | (at_builtin; refine Stop.un ?_))
  generalize hv3 : v3 = wb at *
  clear hv3
  go_loopw [22, 7] (fun i v wr => ∃ (j : Nat) (ab : Option Addr) (cb : Nat) (rs : List Rw), j ≤ nx ∧ i = .int .i64 (j : Int) ∧ v = .slice ab j cb ∧ OwnRs wb wr (.slice ab j cb) j rs ∧ Off wr (.slice ab j cb) rs ∧ Hid (rs.map (·.l) = keepM ((x.map (·.l)).take j))) (fun i _ _ => nx - (intOf i).toNat)
  case atStart => exact ⟨0, none, 0, [], Nat.zero_le _, rfl, rfl, Own.nil _ _ (Below.refl _ _), (fun r hr => by cases hr), Lib.hid rfl⟩
  case round =>
    obtain ⟨j, ab, cb, rs, hj, rfl, rfl, O, F, HL⟩ := hrel
    by_cases hlt : j < nx
    · have hjl : j < x.length := by have := HXL.out.1; omega
      have t2 := t1.mono (Own.below O)
      obtain ⟨b, o, rfl⟩ := t2.cs.addr (by rw [rwcells_length]; omega)
      have x0 := t2.at hjl
      have rk := t2.ok x[j] (List.getElem_mem _)
      have hrn := HXL.out.2.2.2 x[j] (List.getElem_mem _)
      have HT : Hid (keepM ((x.map (·.l)).take (j + 1)) = keepM ((x.map (·.l)).take j) ++ [keepL j x[j].l]) := Lib.hid (by
        have := keepM_succ (x.map (·.l)) j (by simpa using hjl)
        rw [this]; simp)
      generalize x[j] = r at x0 rk hrn HT
      have HBr : Hid (∀ r ∈ rs, ∀ a, r.a = some a → a.block < wr.heap.size) := Lib.hid (fun r hr a ha => ((F r hr).2 a ha).1)
      have hmin : min (r.n : Int) 8 = ((min r.n 8 : Nat) : Int) := by omega
      have hm8 : min r.n 8 ≤ 8 := Nat.min_le_right _ _
      have hml : min r.n 8 ≤ r.n := Nat.min_le_left _ _
      have hkl : keepL j r.l = r.l.take (min r.n 8) ++ List.replicate (20 - min r.n 8) ⟨0, 0, ⟨#[]⟩⟩ ++ [plcV j] := by unfold keepL; rw [rk.len]
      have hcsT : Cs wr r.a (vcells (r.l.take (min r.n 8))) := by
        have := rk.cs.take ((min r.n 8) * 3)
        rwa [vcells_take] at this
      have hlT : (r.l.take (min r.n 8)).length = min r.n 8 := by rw [List.length_take, rk.len]; omega
      have HKD : Hid (∀ v ∈ r.l.take (min r.n 8), 0 ≤ v.k) := Lib.hid (fun v hv => rk.kind v (List.mem_of_mem_take hv))
      generalize r.l.take (min r.n 8) = lt at hkl hcsT hlT HKD
      generalize min r.n 8 = f8 at hmin hm8 hml hkl hcsT hlT
      have HK8 := Lib.hid hkl
      have HM8 := Lib.hid hmin
      have HLT := Lib.hid hlT
      have hle := rk.le
      have hmx : r.cap ≤ 9223372036854775807 := rk.max
      have hb0 := Own.below O
      have hS : OwnV wb (wr.alloc (.cells #[] 32)) (.slice (some ⟨wr.heap.size, 0, none⟩) 0 0) 0 [] := Own.block hb0 rfl (by decide)
      have hcs := hcsT.alloc (.cells #[] 32)
      have bA := (Below.refl wr.heap.size wr).alloc (Nat.le_refl _) (.cells #[] 32)
      have hsA : (wr.alloc (.cells #[] 32)).heap.size = wr.heap.size + 1 := by simp
      clear hjl rk hkl hmin hlT hcsT hb0 t2
      go_wp2_with (first | (at_make; refine Stop.un ?_) | (at_builtin; refine Stop.un ?_) | (with_reducible refine Stop.slice ?_))
      rw [HM8.out]
      refine Stop.mk ?_
      go_wp2_with (first | (at_make; refine Stop.un ?_) | (at_builtin; refine Stop.un ?_))
      refine Stop.mk (app_rsk wb _ _ rfl rfl hS rfl rfl HLT.out hcs (by omega) ?_)
      intro g1 d1 w1 O1 G1 K1
      simp only [Nat.zero_add, List.nil_append] at O1 ⊢
      have B1 := bA.one G1 (Nat.le_refl _) (Nat.le_refl _)
      have hg1 : wr.heap.size ≤ g1 := by omega
      clear hS hcs bA G1 K1 hsA x0
      go_wp2_with (first | (at_make; refine Stop.un ?_) | (at_builtin; refine Stop.un ?_))
      rw [HM8.out]
      refine Stop.mk (app_zs wb _ _ rfl rfl O1 rfl (m := 20 - f8) (by rw [show ((20 - f8 : Nat) : Int) = 20 - (f8 : Int) by omega]; rfl) (by omega) (by omega) ?_)
      intro g2 d2 w2 O2 G2 K2
      have hs1 := B1.size
      have B2 := B1.one G2 hg1 (Nat.le_refl _)
      have hg2 : wr.heap.size ≤ g2 := by omega
      rw [show f8 + (20 - f8) = 20 by omega] at O2 ⊢
      obtain ⟨l20, hl20⟩ : ∃ l20, lt ++ List.replicate (20 - f8) (⟨0, 0, ⟨#[]⟩⟩ : V) = l20 := ⟨_, rfl⟩
      have hk20 := HK8.out
      have hkd : ∀ v ∈ l20 ++ [plcV j], 0 ≤ v.k := by
        intro v hv
        rcases List.mem_append.1 hv with hv | hv
        · rw [← hl20] at hv
          rcases List.mem_append.1 hv with hv | hv
          · exact HKD.out v hv
          · rw [(List.mem_replicate.1 hv).2]; exact Int.le_refl _
        · rw [List.mem_singleton.1 hv]; show (0 : Int) ≤ 2; omega
      rw [hl20] at O2 hk20
      have HKX := Lib.hid (And.intro hk20 hkd)
      clear O1 G2 K2 hs1 B1 hg1 HK8 HM8 HLT HKD hl20 hk20 hkd
      have hOl := Own.lt O
      have O3 := Own.keep O B2
      have F3 := F.below B2
      have hap : Apart (.slice (some ⟨g2, 0, none⟩) 20 d2) (.slice ab j cb) := fun q h e => by
        have := hOl q e
        have e2 : some g2 = some q := h
        have e3 := Option.some.inj e2
        omega
      clear O F hOl
      go_wp2_with (first | (at_make; refine Stop.un ?_) | (at_builtin; refine Stop.un ?_))
      refine Stop.mk (app_rw1 (r := ⟨some ⟨g2, 0, none⟩, 20, d2, l20⟩) wb _ _ rfl rfl O3 rfl rfl (by omega) ?_)
      intro a4 c4 w4 O4 G4 K4
      have R4 := Own.beside O2 G4 hap (Own.below O4)
      have hap4 : Apart (.slice (some ⟨g2, 0, none⟩) 20 d2) (.slice a4 (j + 1) c4) := Own.apart O2 hap K4
      have F4 := Off.grown (v := .slice ab j cb) F3 G4 K4
      have hs4 := G4.size
      have hsB := B2.size
      obtain ⟨g4, rfl, hge4, hlt4⟩ := OwnRs.at O4 (by omega)
      have hrl : rs.length = j := OwnRs.length O3
      have x4 : w4.cell? ⟨g4, j, none⟩ = some (.slice (some ⟨g2, 0, none⟩) 20 d2) := by
        have := (Own.cs O4).at (b := g4) (o := 0) (j := j) (u := .slice (some ⟨g2, 0, none⟩) 20 d2) (by simp [rwcells, hrl, Rw.sl])
        rwa [Nat.zero_add] at this
      have hle4 := owns_le O4.1
      have hmx4 : c4 ≤ 9223372036854775807 := owns_max O4.1
      have HRL := Lib.hid hrl
      clear O2 O3 F3 G4 K4 hap hrl
      go_wp2_with (first | (at_make; refine Stop.un ?_) | (at_builtin; refine Stop.un ?_))
      refine Stop.mk (app_rv1 (c := plcV j) wb _ _ rfl rfl R4 rfl rfl (by omega) ?_)
      intro g5 d5 w5 R5 G5 K5
      have O5 := Own.beside O4 G5 hap4.symm (Own.below R5)
      have hap5 : Apart (.slice (some ⟨g4, 0, none⟩) (j + 1) c4) (.slice (some ⟨g5, 0, none⟩) 21 d5) := fun q h e => by
        have e1 : some g4 = some q := h
        have e2 : some g5 = some q := e
        have e3 := Option.some.inj e1
        have e4 := Option.some.inj e2
        rcases K5 with K5 | K5
        · exact hap4 q (by rw [← e2, K5]; rfl) h
        · omega
      have hs5 := G5.size
      have hlt5 := Own.lt R5 g5 rfl
      have q5 : RowOk w5 ⟨some ⟨g5, 0, none⟩, 21, d5, keepL j r.l⟩ := ⟨by rw [HKX.out.1]; exact Own.cs R5, keepL_length _ _, owns_le R5.1, owns_max R5.1, by rw [HKX.out.1]; exact HKX.out.2⟩
      have F5 : Off w5 (.slice (some ⟨g4, 0, none⟩) (j + 1) c4) (rs ++ [⟨some ⟨g5, 0, none⟩, 21, d5, keepL j r.l⟩]) := fun y hy => by
        rcases List.mem_append.1 hy with hy | hy
        · have h0 := F4 y hy
          have hbr := HBr.out y hy
          refine ⟨⟨h0.1.cs.grown G5 (fun a ha => ⟨(h0.2 a ha).1, fun e => ?_⟩), h0.1.len, h0.1.le, h0.1.max, h0.1.kind⟩, fun a ha => ⟨Nat.lt_of_lt_of_le (h0.2 a ha).1 hs5, (h0.2 a ha).2⟩⟩
          have := hbr a ha
          have e2 := Option.some.inj e
          omega
        · rw [List.mem_singleton.1 hy]
          refine ⟨q5, fun a ha => ?_⟩
          have ha2 : some (⟨g5, 0, none⟩ : Addr) = some a := ha
          obtain rfl := Option.some.inj ha2
          exact ⟨hlt5, fun e => hap5 g5 e rfl⟩
      have fz5 := O5.1.frozenAt j
      have x5 : w5.cell? ⟨g4, j, none⟩ = some (.slice (some ⟨g2, 0, none⟩) 20 d2) := by
        have := (Own.cs O5).at (b := g4) (o := 0) (j := j) (u := .slice (some ⟨g2, 0, none⟩) 20 d2) (by simp [rwcells, HRL.out, Rw.sl])
        rwa [Nat.zero_add] at this
      have hl5 := lt_cell x5
      have O6 : OwnRs wb (w5.setCell ⟨g4, j, none⟩ (.slice (some ⟨g5, 0, none⟩) 21 d5)) (.slice (some ⟨g4, 0, none⟩) (j + 1) c4) (j + 1) (rs ++ [⟨some ⟨g5, 0, none⟩, 21, d5, keepL j r.l⟩]) := by
        have := Own.stored O5 j (.slice (some ⟨g5, 0, none⟩) 21 d5)
        rwa [show (rwcells (rs ++ [(⟨some ⟨g2, 0, none⟩, 20, d2, l20⟩ : Rw)])).set j (.slice (some ⟨g5, 0, none⟩) 21 d5) = rwcells (rs ++ [⟨some ⟨g5, 0, none⟩, 21, d5, keepL j r.l⟩]) by
          simp [rwcells, HRL.out, Rw.sl, List.set_append]] at this
      have F6 := Off.set F5 j (.slice (some ⟨g5, 0, none⟩) 21 d5)
      have HL2 : Hid ((rs ++ [(⟨some ⟨g5, 0, none⟩, 21, d5, keepL j r.l⟩ : Rw)]).map (·.l) = keepM ((x.map (·.l)).take (j + 1))) := Lib.hid (by rw [List.map_append, HL.out, HT.out]; rfl)
      clear O4 R4 F4 G5 K5 x4 O5 R5 F5 q5 hap4 hap5 HKX HBr HL HT
      go_wp2_with (first | (at_make; refine Stop.un ?_) | (at_builtin; refine Stop.un ?_))
      go_roundw
      case rel => exact ⟨j + 1, _, c4, _, by omega, by go_num, rfl, O6, F6, HL2⟩
      case measure => simp [intOf]; omega
    · obtain rfl : j = nx := by omega
      have hXl : (x.map (·.l)).length = j := by rw [List.length_map]; exact HXL.out.1
      have HRM : Hid (rs.map (·.l) = keepM (x.map (·.l))) := Lib.hid (by rw [HL.out, List.take_of_length_le (by omega)])
      have T : Tab wr ab rs := ⟨Own.cs O, fun r hr => (F r hr).1⟩
      have hrl : rs.length = j := OwnRs.length O
      have h21 : ∀ r ∈ rs, r.n ≤ 1000000 := fun r hr => by
        have h2 := (F r hr).1.len
        have h3 : r.l ∈ keepM (x.map (·.l)) := by rw [← HRM.out]; exact List.mem_map.2 ⟨r, hr, rfl⟩
        obtain ⟨q, hq, he⟩ := List.getElem_of_mem h3
        rw [keepM_get] at he
        rw [← he, keepL_length] at h2
        omega
      have bx := b0.next (Own.below O)
      have kxx := kx.mono (Own.below O) (Nat.le_refl _)
      have hle := owns_le O.1
      have hmx : cb ≤ 9223372036854775807 := owns_max O.1
      have hck : ck ≤ 9223372036854775807 := HKL.out.2.2
      have HS1 := Lib.hid (fun W T kx => sort_any ab j cb rs ak f ck kk W T hrl hle hmx (by omega) h21 kx HKL.out.1 hkc HKL.out.2.2)
      have HSO := Lib.hid (fun (g : Nat) (q : List Rw) W T kx hl => sorted_any (some ⟨g, 0, none⟩) j j q ak f ck kk W T hl (Nat.le_refl _) (by unfold maxLen; omega) kx HKL.out.1 hkc HKL.out.2.2)
      have HS2 := Lib.hid (fun (g : Nat) (q : List Rw) W T kx hl hr => sort_any (some ⟨g, 0, none⟩) j j q ak f ck kk W T hl (Nat.le_refl _) (by unfold maxLen; omega) (by omega) hr kx HKL.out.1 hkc HKL.out.2.2)
      have HKA := Lib.hid (fun (q : List Rw) (hq : q.map (·.l) = sortL kk (keepM (x.map (·.l)))) => keepAll_of kk q rs (x.map (·.l)) HRM.out hq)
      have HCM := Lib.hid (fun (r r2 : Rw) W h1 h2 kx => ocompare_any r.a r.n r.cap r.l r2.a r2.n r2.cap r2.l ak f ck kk W h1 h2 kx HKL.out.1 hkc HKL.out.2.2)
      have HRL := Lib.hid hrl
      have bw : Below wr.heap.size wr wr := Below.refl _ _
      rw [HRM.out] at HS1
      rw [hXl] at HKA
      clear O F HL b0 t1 kx hrl h21 hXl
      obtain ⟨wx, hwx⟩ : ∃ wx, wx = wr := ⟨_, rfl⟩
      subst hwx
      go_wp2_with (first | (at_make; refine Stop.un ?_) | (at_builtin; refine Stop.un ?_))
      go_loopw [56] (fun v wr => ∃ i : Nat, i ≤ f ∧ v = .int .i64 (i : Int) ∧ Below wx.heap.size wx wr) (fun v _ => f - (intOf v).toNat)
      case atStart => exact ⟨0, Nat.zero_le _, rfl, bw⟩
      case round =>
        clear bw
        obtain ⟨i, hi, rfl, bw⟩ := hrel
        have kx2 := kxx.mono bw (Nat.le_refl _)
        by_cases hlk : i < f
        · have hil : i < kk.length := by have := HKL.out.1; omega
          obtain ⟨b, o, rfl⟩ := kx2.addr (by rw [kcells_length]; omega)
          obtain ⟨x0, x1⟩ := kx2.kat hil
          generalize kk[i] = ky at x0 x1
          obtain ⟨col, down⟩ := ky
          simp only at x0 x1
          have z8 := At.new wr #[.int .i64 col, .bool down] 34
          have bz := (Below.refl wr.heap.size wr).alloc (Nat.le_refl _) (.cells #[.int .i64 col, .bool down] 34)
          have bw2 := bw.next bz
          have bb2 := bx.next bw2
          have z80 := z8.cell 0 rfl
          clear hil kx2 bw z8
          go_upto_region 13 with fail
          generalize wr.alloc (.cells #[.int .i64 col, .bool down] 34) = w3 at bw2 bb2 z80 bz ⊢
          generalize wr.heap.size = h8 at z80 bz ⊢
          clear bz x0 x1
          by_cases h1 : col < 0
          · have hd1 : decide (col < 0) = true := decide_eq_true h1
            go_wp2_with (first | (at_make; refine Stop.un ?_) | (at_builtin; refine Stop.un ?_))
            go_ret
            exact ⟨by first | rfl | simp, bb2⟩
          · have hd1 : decide (col < 0) = false := decide_eq_false h1
            by_cases h2 : 20 ≤ col
            · have hd2 : decide (20 ≤ col) = true := decide_eq_true h2
              go_wp2_with (first | (at_make; refine Stop.un ?_) | (at_builtin; refine Stop.un ?_))
              go_ret
              exact ⟨by first | rfl | simp, bb2⟩
            · have hd2 : decide (20 ≤ col) = false := decide_eq_false h2
              go_wp2_with (first | (at_make; refine Stop.un ?_) | (at_builtin; refine Stop.un ?_))
              go_roundw
              case rel => exact ⟨i + 1, by omega, by go_num, bw2⟩
              case measure => simp [intOf]; omega
        · obtain rfl : i = f := by omega
          go_wp2_with (first | (at_make; refine Stop.un ?_) | (at_builtin; refine Stop.un ?_))
          have T2 := T.mono bw
          replace bx := bx.next bw
          clear T bw kxx
          refine (HS1.out _ T2 kx2).mono ?_
          rintro e vy ⟨g1, q1, rfl, o1, hr1⟩
          have bt := o1.below
          have u1 := o1.tab
          have hql : q1.length = j := by have := congrArg List.length hr1; rw [List.length_map] at this; rw [this]; unfold sortL; rw [sortB_length, keepM_length, List.length_map]; exact HXL.out.1
          obtain ⟨pl, hka⟩ := HKA.out q1 hr1
          have HKA2 := Lib.hid hka
          have hup : upB (rcmp kk) q1 = true := upB_asc (rcmp kk) q1 (asc_of_map kk q1 _ hr1)
          have h21 : ∀ r ∈ q1, r.n ≤ 1000000 := fun r hr => by
            obtain ⟨i, hi, he⟩ := List.getElem_of_mem hr
            obtain ⟨r0, p0, r9, e1, -, -, -, -, e2, -⟩ := hka.1 i (by omega)
            have e3 := (List.getElem?_eq_some_iff.1 e1).2
            rw [he] at e3
            subst e3
            have := (o1.ok r hr).1.len
            omega
          have HQ := Lib.hid hr1
          have HQL := Lib.hid hql
          have H21 := Lib.hid h21
          replace bx := Below.next bx bt
          replace T2 := Tab.mono T2 bt
          replace kx2 := Cs.mono kx2 bt (Nat.le_refl _)
          clear bt o1 hr1 hql hka h21 HKA HS1
          have hso := HSO.out g1 q1 _ u1 kx2 HQL.out
          rw [hup] at hso
          have HSS := Lib.hid hso
          clear hso hup HSO
          go_wp2_with (first | (at_make; refine Stop.un ?_) | (at_builtin; refine Stop.un ?_))
          refine HSS.out.mono ?_
          rintro e vz ⟨rfl, bt⟩
          replace bx := Below.next bx bt
          replace T2 := Tab.mono T2 bt
          replace kx2 := Cs.mono kx2 bt (Nat.le_refl _)
          replace u1 := Tab.mono u1 bt
          clear bt HSS
          go_wp2_with (first | (at_make; refine Stop.un ?_) | (at_builtin; refine Stop.un ?_))
          refine (HS2.out g1 q1 _ u1 kx2 HQL.out H21.out).mono ?_
          rintro e v2 ⟨g2, q2, rfl, o2, hr2⟩
          have bt := o2.below
          have u2 := o2.tab
          replace bx := Below.next bx bt
          replace T2 := Tab.mono T2 bt
          replace kx2 := Cs.mono kx2 bt (Nat.le_refl _)
          replace u1 := Tab.mono u1 bt
          have hs2 : q2.map (·.l) = q1.map (·.l) := by
            rw [hr2]
            have h1 : Asc (fun a b => cmpR a b kk) (q1.map (·.l)) := by rw [HQ.out]; exact sortB_asc (fun a b => cmpR a b kk) (fun a b => cmpR_neg a b kk) (fun a b d h1 h2 => by have := cmpR_tri a b d kk; unfold Tri at this; omega) _
            exact sortB_of_asc (fun a b => cmpR a b kk) (fun a b => cmpR_neg a b kk) (fun a b d h1 h2 => by have := cmpR_tri a b d kk; unfold Tri at this; omega) _ h1
          have hql2 : q2.length = j := by have := congrArg List.length hs2; rw [List.length_map, List.length_map] at this; rw [this]; exact HQL.out
          have hsm := samerows_any _ j j q2 _ j j q1 _ u2 u1 hql2 HQL.out (Nat.le_refl _) (Nat.le_refl _) (by unfold maxLen; omega) (by unfold maxLen; omega)
          rw [decide_eq_true hs2] at hsm
          have HSM := Lib.hid hsm
          clear bt o2 u2 hr2 hs2 hql2 hsm HS2 H21 HQ
          go_wp2_with (first | (at_make; refine Stop.un ?_) | (at_builtin; refine Stop.un ?_))
          refine HSM.out.mono ?_
          rintro e v9 ⟨rfl, bt⟩
          replace bx := Below.next bx bt
          replace T2 := Tab.mono T2 bt
          replace kx2 := Cs.mono kx2 bt (Nat.le_refl _)
          replace u1 := Tab.mono u1 bt
          clear bt HSM
          go_wp2_with (first | (at_make; refine Stop.un ?_) | (at_builtin; refine Stop.un ?_))
          rw [zero100]
          have z0 := At.new v9 (hadA []) 38
          have bh := (Below.refl v9.heap.size v9).alloc (Nat.le_refl _) (.cells (hadA []) 38)
          have HBX := Lib.hid bx
          clear bx
          go_wp2_with (first | (at_make; refine Stop.un ?_) | (at_builtin; refine Stop.un ?_))
          generalize v9.alloc (.cells (hadA []) 38) = wh at z0 bh ⊢
          obtain ⟨G, hG⟩ : ∃ G, v9.heap.size = G := ⟨_, rfl⟩
          have HGE : Hid (v9.heap.size ≤ G) := Lib.hid (Nat.le_of_eq hG)
          rw [hG] at z0 ⊢
          clear hG
          go_loopw [94] (fun v wr => ∃ i : Nat, i ≤ j ∧ v = .int .i64 (i : Int) ∧ At wr G (hadA (pl.take i)) 38 ∧ Below v9.heap.size v9 wr) (fun v _ => j - (intOf v).toNat)
          case atStart => exact ⟨0, Nat.zero_le _, rfl, z0, bh⟩
          case round =>
            clear z0 bh
            obtain ⟨m, hm, rfl, z, bw⟩ := hrel
            by_cases hlm : m < j
            · obtain ⟨r, q, r', e1, e2, hq, e3, e4, e5, e6, e7⟩ := HKA2.out.1 m hlm
              have hmq : m < q1.length := (List.getElem?_eq_some_iff.1 e1).1
              have hqr : q < rs.length := (List.getElem?_eq_some_iff.1 e2).1
              have e1' := (List.getElem?_eq_some_iff.1 e1).2
              have e2' := (List.getElem?_eq_some_iff.1 e2).2
              have HX0 : Hid (∀ W, Below v9.heap.size v9 W → W.cell? ⟨g1, m, none⟩ = some (.slice r.a r.n r.cap)) := Lib.hid (fun W b => by
                have := (u1.mono b).at hmq
                rwa [e1', Nat.zero_add] at this)
              have HO0 : Hid (∀ W, Below v9.heap.size v9 W → RowOk W r) := Lib.hid (fun W b => (u1.ok r (e1' ▸ List.getElem_mem _)).mono b)
              have hrn : r.n = 21 := by have := (HO0.out _ (Below.refl _ _)).len; omega
              obtain ⟨b, o, hra⟩ := (HO0.out _ (Below.refl _ _)).cs.addr (by rw [vcells_length]; omega)
              have HC0 : Hid (∀ W, Below v9.heap.size v9 W → W.cell? ⟨b, o + 61, none⟩ = some (.int .i64 (q : Int))) := Lib.hid (fun W bb => by
                have h0 := (HO0.out W bb).cs
                rw [hra] at h0
                have h20 : 20 < r.l.length := by omega
                have h1 := (vcells_get r.l 20 h20).2.1
                rw [(List.getElem?_eq_some_iff.1 e6).2] at h1
                exact h0.at h1)
              obtain ⟨bx, ox, rfl⟩ := T2.cs.addr (by rw [rwcells_length]; omega)
              have x0 := HX0.out _ bw
              have c0 := HC0.out _ bw
              have y0 := (T2.mono bw).at hqr
              rw [e2'] at y0
              have h0 := z.cell q (hadA_get (pl.take m) q (by omega))
              rw [decide_eq_false e4] at h0
              have hsr := samerow_any r.a r.n r.cap r.l r'.a r'.n r'.cap r'.l wr (HO0.out _ bw).cs ((T2.mono bw).ok r' (e2' ▸ List.getElem_mem _)).cs (HO0.out _ bw).len ((T2.mono bw).ok r' (e2' ▸ List.getElem_mem _)).len (HO0.out _ bw).le ((T2.mono bw).ok r' (e2' ▸ List.getElem_mem _)).le (HO0.out _ bw).max ((T2.mono bw).ok r' (e2' ▸ List.getElem_mem _)).max
              rw [decide_eq_true e7] at hsr
              have HSR := Lib.hid hsr
              have HPT : Hid (pl.take (m + 1) = pl.take m ++ [q]) := Lib.hid (by rw [List.take_add_one, e3]; rfl)
              have HF := Lib.hid (And.intro e1 e3)
              obtain ⟨ra, rn, rc, rl⟩ := r
              simp only at hrn hra
              subst hrn hra
              have hd1 : decide ((q : Int) < 0) = false := decide_eq_false (by omega)
              have hd2 : decide ((j : Int) ≤ (q : Int)) = false := decide_eq_false (by omega)
              simp only at HX0 HO0 x0 HSR
              clear e1 e2 e3 e4 e5 e6 e7 e1' e2' hsr hmq hqr
              go_wp2_with (first | (at_make; refine Stop.un ?_) | (at_builtin; refine Stop.un ?_))
              refine HSR.out.mono ?_
              rintro e w3 ⟨rfl, bt⟩
              have z3 := z.mono bt
              have bw3 := bw.next bt
              have fz3 := z3.free q
              have c3 := HC0.out _ bw3
              have h3 := z3.cell q (hadA_get (pl.take m) q (by omega))
              have z4 := z3.set q (.bool true)
              rw [hadA_set _ _ (by omega), ← HPT.out] at z4
              have bw4 := bw3.setCell (p := ⟨G, q, none⟩) HGE.out (.bool true)
              clear x0 c0 y0 h0 z bw bt z3 HSR HPT
              go_upto_region 26 with fail
              clear fz3 c3 h3 hd1 hd2
              generalize w3.setCell ⟨G, q, none⟩ (.bool true) = w4 at z4 bw4 ⊢
              clear bw3
              have kw := kx2.mono bw4 (Nat.le_refl _)
              by_cases hm0 : m = 0
              · subst hm0
                have hd1 : decide ((0 : Int) < ((0 : Nat) : Int)) = false := decide_eq_false (by omega)
                have hd2 : decide ((0 : Int) < (0 : Int)) = false := decide_eq_false (by omega)
                refine mix_startE 28 rfl (by kernel_rfl) ?_
                intro xq hxq
                replace z4 := At.mono z4 hxq
                replace bw4 := Below.next bw4 hxq
                clear hxq
                refine mix_quiet Keeps.ext 0 rfl (by kernel_rfl) rfl ?_
                intro ι U hne hU
                go_big_quiet_op
                clear hU hne U ι
                show wpAnyM _ _ _ _ _ _ _ _ _
                refine mix_quiet Keeps.ext 1 rfl (by kernel_rfl) rfl ?_
                intro ι U hne hU
                go_big_quiet_op
                clear hU hne U ι
                show wpAnyM _ _ _ _ _ _ _ _ _
                refine mix_quiet Keeps.ext 2 rfl (by kernel_rfl) rfl ?_
                intro ι U hne hU
                go_big_quiet_op
                clear hU hne U ι
                show wpAnyM _ _ _ _ _ _ _ _ _
                refine mix_skip Keeps.ext 3 rfl (by kernel_rfl) rfl ?_
                go_big_quiet_skip
                refine wpQuiet_nil ?_
                show wpAnyM _ _ _ _ _ _ _ _ _
                refine mix_skip Keeps.ext 4 rfl (by kernel_rfl) rfl ?_
                go_big_quiet_skip
                refine wpQuiet_nil ?_
                show wpAnyM _ _ _ _ _ _ _ _ _
                refine mix_skip Keeps.ext 5 rfl (by kernel_rfl) rfl ?_
                go_big_quiet_skip
                refine wpQuiet_nil ?_
                show wpAnyM _ _ _ _ _ _ _ _ _
                refine mix_skip Keeps.ext 6 rfl (by kernel_rfl) rfl ?_
                go_big_quiet_skip
                refine wpQuiet_nil ?_
                show wpAnyM _ _ _ _ _ _ _ _ _
                refine mix_skip Keeps.ext 7 rfl (by kernel_rfl) rfl ?_
                go_big_quiet_skip
                refine wpQuiet_nil ?_
                show wpAnyM _ _ _ _ _ _ _ _ _
                refine mix_skip Keeps.ext 8 rfl (by kernel_rfl) rfl ?_
                go_big_quiet_skip
                refine wpQuiet_nil ?_
                show wpAnyM _ _ _ _ _ _ _ _ _
                refine mix_skip Keeps.ext 9 rfl (by kernel_rfl) rfl ?_
                go_big_quiet_skip
                refine wpQuiet_nil ?_
                show wpAnyM _ _ _ _ _ _ _ _ _
                refine mix_skip Keeps.ext 10 rfl (by kernel_rfl) rfl ?_
                go_big_quiet_skip
                refine wpQuiet_nil ?_
                show wpAnyM _ _ _ _ _ _ _ _ _
                refine mix_skip Keeps.ext 11 rfl (by kernel_rfl) rfl ?_
                go_big_quiet_skip
                refine wpQuiet_nil ?_
                show wpAnyM _ _ _ _ _ _ _ _ _
                refine mix_quiet Keeps.ext 12 rfl (by kernel_rfl) rfl ?_
                intro ι U hne hU
                go_big_quiet_op
                clear hU hne U ι
                show wpAnyM _ _ _ _ _ _ _ _ _
                refine mix_quiet Keeps.ext 13 rfl (by kernel_rfl) rfl ?_
                intro ι U hne hU
                go_big_quiet_op
                clear hU hne U ι
                show wpAnyM _ _ _ _ _ _ _ _ _
                refine mix_skip Keeps.ext 14 rfl (by kernel_rfl) rfl ?_
                go_big_quiet_skip
                refine wpQuiet_nil ?_
                show wpAnyM _ _ _ _ _ _ _ _ _
                refine mix_skip Keeps.ext 15 rfl (by kernel_rfl) rfl ?_
                go_big_quiet_skip
                refine wpQuiet_nil ?_
                show wpAnyM _ _ _ _ _ _ _ _ _
                refine mix_skip Keeps.ext 16 rfl (by kernel_rfl) rfl ?_
                go_big_quiet_skip
                refine wpQuiet_nil ?_
                show wpAnyM _ _ _ _ _ _ _ _ _
                refine mix_skip Keeps.ext 17 rfl (by kernel_rfl) rfl ?_
                go_big_quiet_skip
                refine wpQuiet_nil ?_
                show wpAnyM _ _ _ _ _ _ _ _ _
                refine mix_skip Keeps.ext 18 rfl (by kernel_rfl) rfl ?_
                go_big_quiet_skip
                refine wpQuiet_nil ?_
                show wpAnyM _ _ _ _ _ _ _ _ _
                refine mix_skip Keeps.ext 19 rfl (by kernel_rfl) rfl ?_
                go_big_quiet_skip
                refine wpQuiet_nil ?_
                show wpAnyM _ _ _ _ _ _ _ _ _
                refine mix_skip Keeps.ext 20 rfl (by kernel_rfl) rfl ?_
                go_big_quiet_skip
                refine wpQuiet_nil ?_
                show wpAnyM _ _ _ _ _ _ _ _ _
                refine mix_skip Keeps.ext 21 rfl (by kernel_rfl) rfl ?_
                go_big_quiet_skip
                refine wpQuiet_nil ?_
                show wpAnyM _ _ _ _ _ _ _ _ _
                refine mix_skip Keeps.ext 22 rfl (by kernel_rfl) rfl ?_
                go_big_quiet_skip
                refine wpQuiet_nil ?_
                show wpAnyM _ _ _ _ _ _ _ _ _
                refine mix_skip Keeps.ext 23 rfl (by kernel_rfl) rfl ?_
                go_big_quiet_skip
                refine wpQuiet_nil ?_
                show wpAnyM _ _ _ _ _ _ _ _ _
                refine mix_skip Keeps.ext 24 rfl (by kernel_rfl) rfl ?_
                go_big_quiet_skip
                refine wpQuiet_nil ?_
                show wpAnyM _ _ _ _ _ _ _ _ _
                refine mix_skip Keeps.ext 25 rfl (by kernel_rfl) rfl ?_
                go_big_quiet_skip
                refine wpQuiet_nil ?_
                show wpAnyM _ _ _ _ _ _ _ _ _
                refine mix_skip Keeps.ext 26 rfl (by kernel_rfl) rfl ?_
                go_big_quiet_skip
                refine wpQuiet_nil ?_
                show wpAnyM _ _ _ _ _ _ _ _ _
                refine mix_quiet Keeps.ext 27 rfl (by kernel_rfl) rfl ?_
                intro ι U hne hU
                go_big_quiet_op
                clear hU hne U ι
                show wpAnyM _ _ _ _ _ _ _ _ _
                refine mix_end (by kernel_rfl) ?_
                go_wp2_with (first | (at_make; refine Stop.un ?_) | (at_builtin; refine Stop.un ?_))
                go_roundw
                case rel => exact ⟨0 + 1, by omega, by go_num, z4, bw4⟩
                case measure => simp [intOf] <;> omega
              · obtain ⟨e, rfl⟩ : ∃ e, m = e + 1 := ⟨m - 1, by omega⟩
                obtain ⟨s, u, s', f1, -, hu, f3, -, f5, f6, -⟩ := HKA2.out.1 e (by omega)
                have hmq : e < q1.length := (List.getElem?_eq_some_iff.1 f1).1
                have f1' := (List.getElem?_eq_some_iff.1 f1).2
                have hle2 := HKA2.out.2 e s _ u q f1 HF.out.1 f3 HF.out.2
                simp only at hle2
                have so : RowOk w4 s := (u1.ok s (f1' ▸ List.getElem_mem _)).mono bw4
                have p0 : w4.cell? ⟨g1, e, none⟩ = some (.slice s.a s.n s.cap) := by
                  have := (u1.mono bw4).at hmq
                  rwa [f1', Nat.zero_add] at this
                have hsn : s.n = 21 := by have := so.len; omega
                obtain ⟨b2, o2, hsa⟩ := so.cs.addr (by rw [vcells_length]; omega)
                have pc : w4.cell? ⟨b2, o2 + 61, none⟩ = some (.int .i64 (u : Int)) := by
                  have h0 := so.cs
                  rw [hsa] at h0
                  have h20 : 20 < s.l.length := by omega
                  have h1 := (vcells_get s.l 20 h20).2.1
                  rw [(List.getElem?_eq_some_iff.1 f6).2] at h1
                  exact h0.at h1
                have HC := Lib.hid (fun W (oa : RowOk W s) (ob : RowOk W ⟨some ⟨b, o, none⟩, 21, rc, rl⟩) k => HCM.out s ⟨some ⟨b, o, none⟩, 21, rc, rl⟩ W oa ob k)
                have ro := HO0.out _ bw4
                have rc0 := HC0.out _ bw4
                obtain ⟨sa, sn, sc, sl⟩ := s
                simp only at hsn hsa hle2
                subst hsn hsa
                simp only at HC p0
                have hd1 : decide ((0 : Int) < ((e + 1 : Nat) : Int)) = true := decide_eq_true (by omega)
                have hd2 : decide ((0 : Int) < (e : Int) + 1) = true := decide_eq_true (by omega)
                clear f1 f1' f3 f5 f6 hmq hm0
                obtain ⟨c, hc⟩ : ∃ c, cmpR sl rl kk = c := ⟨_, rfl⟩
                rw [hc] at HC hle2
                clear hc
                by_cases hc0 : c = 0
                · subst hc0
                  have hd3 : decide ((q : Int) < (u : Int)) = false := decide_eq_false (by have := hle2 rfl; omega)
                  have hd4 : decide (q < u) = false := decide_eq_false (by have := hle2 rfl; omega)
                  have hle3 : u ≤ q := hle2 rfl
                  clear hle2
                  refine mix_startE 28 rfl (by kernel_rfl) ?_
                  intro xq hxq
                  replace z4 := At.mono z4 hxq
                  replace bw4 := Below.next bw4 hxq
                  replace so := RowOk.mono so hxq
                  replace ro := RowOk.mono ro hxq
                  replace kw := Cs.mono kw hxq (Nat.le_refl _)
                  replace p0 := Ext.cell hxq p0
                  replace pc := Ext.cell hxq pc
                  replace rc0 := Ext.cell hxq rc0
                  clear hxq
                  refine mix_quiet Keeps.ext 0 rfl (by kernel_rfl) rfl ?_
                  intro ι U hne hU
                  go_big_quiet_op
                  clear hU hne U ι
                  show wpAnyM _ _ _ _ _ _ _ _ _
                  refine mix_quiet Keeps.ext 1 rfl (by kernel_rfl) rfl ?_
                  intro ι U hne hU
                  go_big_quiet_op
                  clear hU hne U ι
                  show wpAnyM _ _ _ _ _ _ _ _ _
                  refine mix_quiet Keeps.ext 2 rfl (by kernel_rfl) rfl ?_
                  intro ι U hne hU
                  go_big_quiet_op
                  clear hU hne U ι
                  show wpAnyM _ _ _ _ _ _ _ _ _
                  refine mix_quiet Keeps.ext 3 rfl (by kernel_rfl) rfl ?_
                  intro ι U hne hU
                  go_big_quiet_op
                  clear hU hne U ι
                  show wpAnyM _ _ _ _ _ _ _ _ _
                  refine mix_quiet Keeps.ext 4 rfl (by kernel_rfl) rfl ?_
                  intro ι U hne hU
                  go_big_quiet_op
                  clear hU hne U ι
                  show wpAnyM _ _ _ _ _ _ _ _ _
                  refine mix_quiet Keeps.ext 5 rfl (by kernel_rfl) rfl ?_
                  intro ι U hne hU
                  go_big_quiet_op
                  clear hU hne U ι
                  show wpAnyM _ _ _ _ _ _ _ _ _
                  refine mix_quiet Keeps.ext 6 rfl (by kernel_rfl) rfl ?_
                  intro ι U hne hU
                  go_big_quiet_op
                  clear hU hne U ι
                  show wpAnyM _ _ _ _ _ _ _ _ _
                  refine mix_quiet Keeps.ext 7 rfl (by kernel_rfl) rfl ?_
                  intro ι U hne hU
                  have hcw0 := fun ii => (hU ii).cell p0
                  have hcw1 := fun ii => (hU ii).cell pc
                  have hcw2 := fun ii => (hU ii).cell rc0
                  go_big_quiet_op
                  clear hU hne hcw0 hcw1 hcw2 U ι
                  show wpAnyM _ _ _ _ _ _ _ _ _
                  refine mix_quiet Keeps.ext 8 rfl (by kernel_rfl) rfl ?_
                  intro ι U hne hU
                  go_big_quiet_op
                  clear hU hne U ι
                  show wpAnyM _ _ _ _ _ _ _ _ _
                  refine mix_quiet Keeps.ext 9 rfl (by kernel_rfl) rfl ?_
                  intro ι U hne hU
                  go_big_quiet_op
                  clear hU hne U ι
                  show wpAnyM _ _ _ _ _ _ _ _ _
                  refine mix_any 10 rfl (by kernel_rfl) rfl ?_
                  go_wp2_with (first | (at_make; refine Stop.un ?_) | (at_builtin; refine Stop.un ?_))
                  refine (HC.out _ so ro kw).mono ?_
                  rintro e wz ⟨rfl, bz⟩
                  go_wp2_with (first | (at_make; refine Stop.un ?_) | (at_builtin; refine Stop.un ?_))
                  refine MixPost.mk bz ?_
                  replace z4 := At.mono z4 bz
                  replace bw4 := Below.next bw4 bz
                  replace so := RowOk.mono so bz
                  replace ro := RowOk.mono ro bz
                  replace kw := Cs.mono kw bz (Nat.le_refl _)
                  replace p0 := Ext.cell bz p0
                  replace pc := Ext.cell bz pc
                  replace rc0 := Ext.cell bz rc0
                  clear bz
                  refine mix_quiet Keeps.ext 11 rfl (by kernel_rfl) rfl ?_
                  intro ι U hne hU
                  go_big_quiet_op
                  clear hU hne U ι
                  show wpAnyM _ _ _ _ _ _ _ _ _
                  refine mix_quiet Keeps.ext 12 rfl (by kernel_rfl) rfl ?_
                  intro ι U hne hU
                  go_big_quiet_op
                  clear hU hne U ι
                  show wpAnyM _ _ _ _ _ _ _ _ _
                  refine mix_quiet Keeps.ext 13 rfl (by kernel_rfl) rfl ?_
                  intro ι U hne hU
                  go_big_quiet_op
                  clear hU hne U ι
                  show wpAnyM _ _ _ _ _ _ _ _ _
                  refine mix_quiet Keeps.ext 14 rfl (by kernel_rfl) rfl ?_
                  intro ι U hne hU
                  go_big_quiet_op
                  clear hU hne U ι
                  show wpAnyM _ _ _ _ _ _ _ _ _
                  refine mix_quiet Keeps.ext 15 rfl (by kernel_rfl) rfl ?_
                  intro ι U hne hU
                  go_big_quiet_op
                  clear hU hne U ι
                  show wpAnyM _ _ _ _ _ _ _ _ _
                  refine mix_quiet Keeps.ext 16 rfl (by kernel_rfl) rfl ?_
                  intro ι U hne hU
                  go_big_quiet_op
                  clear hU hne U ι
                  show wpAnyM _ _ _ _ _ _ _ _ _
                  refine mix_quiet Keeps.ext 17 rfl (by kernel_rfl) rfl ?_
                  intro ι U hne hU
                  go_big_quiet_op
                  clear hU hne U ι
                  show wpAnyM _ _ _ _ _ _ _ _ _
                  refine mix_quiet Keeps.ext 18 rfl (by kernel_rfl) rfl ?_
                  intro ι U hne hU
                  have hcw0 := fun ii => (hU ii).cell p0
                  have hcw1 := fun ii => (hU ii).cell pc
                  have hcw2 := fun ii => (hU ii).cell rc0
                  go_big_quiet_op
                  clear hU hne hcw0 hcw1 hcw2 U ι
                  show wpAnyM _ _ _ _ _ _ _ _ _
                  refine mix_quiet Keeps.ext 19 rfl (by kernel_rfl) rfl ?_
                  intro ι U hne hU
                  go_big_quiet_op
                  clear hU hne U ι
                  show wpAnyM _ _ _ _ _ _ _ _ _
                  refine mix_quiet Keeps.ext 20 rfl (by kernel_rfl) rfl ?_
                  intro ι U hne hU
                  go_big_quiet_op
                  clear hU hne U ι
                  show wpAnyM _ _ _ _ _ _ _ _ _
                  refine mix_quiet Keeps.ext 21 rfl (by kernel_rfl) rfl ?_
                  intro ι U hne hU
                  have hcw0 := fun ii => (hU ii).cell p0
                  have hcw1 := fun ii => (hU ii).cell pc
                  have hcw2 := fun ii => (hU ii).cell rc0
                  go_big_quiet_op
                  clear hU hne hcw0 hcw1 hcw2 U ι
                  show wpAnyM _ _ _ _ _ _ _ _ _
                  refine mix_quiet Keeps.ext 22 rfl (by kernel_rfl) rfl ?_
                  intro ι U hne hU
                  go_big_quiet_op
                  clear hU hne U ι
                  show wpAnyM _ _ _ _ _ _ _ _ _
                  refine mix_quiet Keeps.ext 23 rfl (by kernel_rfl) rfl ?_
                  intro ι U hne hU
                  go_big_quiet_op
                  clear hU hne U ι
                  show wpAnyM _ _ _ _ _ _ _ _ _
                  refine mix_quiet Keeps.ext 24 rfl (by kernel_rfl) rfl ?_
                  intro ι U hne hU
                  go_big_quiet_op
                  clear hU hne U ι
                  show wpAnyM _ _ _ _ _ _ _ _ _
                  refine mix_quiet Keeps.ext 25 rfl (by kernel_rfl) rfl ?_
                  intro ι U hne hU
                  have hcw0 := fun ii => (hU ii).cell p0
                  have hcw1 := fun ii => (hU ii).cell pc
                  have hcw2 := fun ii => (hU ii).cell rc0
                  go_big_quiet_op
                  clear hU hne hcw0 hcw1 hcw2 U ι
                  show wpAnyM _ _ _ _ _ _ _ _ _
                  refine mix_quiet Keeps.ext 26 rfl (by kernel_rfl) rfl ?_
                  intro ι U hne hU
                  go_big_quiet_op
                  clear hU hne U ι
                  show wpAnyM _ _ _ _ _ _ _ _ _
                  refine mix_quiet Keeps.ext 27 rfl (by kernel_rfl) rfl ?_
                  intro ι U hne hU
                  go_big_quiet_op
                  clear hU hne U ι
                  show wpAnyM _ _ _ _ _ _ _ _ _
                  refine mix_end (by kernel_rfl) ?_
                  go_wp2_with (first | (at_make; refine Stop.un ?_) | (at_builtin; refine Stop.un ?_))
                  go_roundw
                  case rel => exact ⟨e + 1 + 1, by omega, by go_num, z4, bw4⟩
                  case measure => simp [intOf] <;> omega
                · clear hle2
                  have hd3 : (c == 0) = false := by simpa using hc0
                  have hd4 : decide (c = 0) = false := decide_eq_false hc0
                  refine mix_startE 28 rfl (by kernel_rfl) ?_
                  intro xq hxq
                  replace z4 := At.mono z4 hxq
                  replace bw4 := Below.next bw4 hxq
                  replace so := RowOk.mono so hxq
                  replace ro := RowOk.mono ro hxq
                  replace kw := Cs.mono kw hxq (Nat.le_refl _)
                  replace p0 := Ext.cell hxq p0
                  replace pc := Ext.cell hxq pc
                  replace rc0 := Ext.cell hxq rc0
                  clear hxq
                  refine mix_quiet Keeps.ext 0 rfl (by kernel_rfl) rfl ?_
                  intro ι U hne hU
                  go_big_quiet_op
                  clear hU hne U ι
                  show wpAnyM _ _ _ _ _ _ _ _ _
                  refine mix_quiet Keeps.ext 1 rfl (by kernel_rfl) rfl ?_
                  intro ι U hne hU
                  go_big_quiet_op
                  clear hU hne U ι
                  show wpAnyM _ _ _ _ _ _ _ _ _
                  refine mix_quiet Keeps.ext 2 rfl (by kernel_rfl) rfl ?_
                  intro ι U hne hU
                  go_big_quiet_op
                  clear hU hne U ι
                  show wpAnyM _ _ _ _ _ _ _ _ _
                  refine mix_quiet Keeps.ext 3 rfl (by kernel_rfl) rfl ?_
                  intro ι U hne hU
                  go_big_quiet_op
                  clear hU hne U ι
                  show wpAnyM _ _ _ _ _ _ _ _ _
                  refine mix_quiet Keeps.ext 4 rfl (by kernel_rfl) rfl ?_
                  intro ι U hne hU
                  go_big_quiet_op
                  clear hU hne U ι
                  show wpAnyM _ _ _ _ _ _ _ _ _
                  refine mix_quiet Keeps.ext 5 rfl (by kernel_rfl) rfl ?_
                  intro ι U hne hU
                  go_big_quiet_op
                  clear hU hne U ι
                  show wpAnyM _ _ _ _ _ _ _ _ _
                  refine mix_quiet Keeps.ext 6 rfl (by kernel_rfl) rfl ?_
                  intro ι U hne hU
                  go_big_quiet_op
                  clear hU hne U ι
                  show wpAnyM _ _ _ _ _ _ _ _ _
                  refine mix_quiet Keeps.ext 7 rfl (by kernel_rfl) rfl ?_
                  intro ι U hne hU
                  have hcw0 := fun ii => (hU ii).cell p0
                  have hcw1 := fun ii => (hU ii).cell pc
                  have hcw2 := fun ii => (hU ii).cell rc0
                  go_big_quiet_op
                  clear hU hne hcw0 hcw1 hcw2 U ι
                  show wpAnyM _ _ _ _ _ _ _ _ _
                  refine mix_quiet Keeps.ext 8 rfl (by kernel_rfl) rfl ?_
                  intro ι U hne hU
                  go_big_quiet_op
                  clear hU hne U ι
                  show wpAnyM _ _ _ _ _ _ _ _ _
                  refine mix_quiet Keeps.ext 9 rfl (by kernel_rfl) rfl ?_
                  intro ι U hne hU
                  go_big_quiet_op
                  clear hU hne U ι
                  show wpAnyM _ _ _ _ _ _ _ _ _
                  refine mix_any 10 rfl (by kernel_rfl) rfl ?_
                  go_wp2_with (first | (at_make; refine Stop.un ?_) | (at_builtin; refine Stop.un ?_))
                  refine (HC.out _ so ro kw).mono ?_
                  rintro e wz ⟨rfl, bz⟩
                  go_wp2_with (first | (at_make; refine Stop.un ?_) | (at_builtin; refine Stop.un ?_))
                  refine MixPost.mk bz ?_
                  replace z4 := At.mono z4 bz
                  replace bw4 := Below.next bw4 bz
                  replace so := RowOk.mono so bz
                  replace ro := RowOk.mono ro bz
                  replace kw := Cs.mono kw bz (Nat.le_refl _)
                  replace p0 := Ext.cell bz p0
                  replace pc := Ext.cell bz pc
                  replace rc0 := Ext.cell bz rc0
                  clear bz
                  refine mix_quiet Keeps.ext 11 rfl (by kernel_rfl) rfl ?_
                  intro ι U hne hU
                  go_big_quiet_op
                  clear hU hne U ι
                  show wpAnyM _ _ _ _ _ _ _ _ _
                  refine mix_quiet Keeps.ext 12 rfl (by kernel_rfl) rfl ?_
                  intro ι U hne hU
                  go_big_quiet_op
                  clear hU hne U ι
                  show wpAnyM _ _ _ _ _ _ _ _ _
                  refine mix_quiet Keeps.ext 13 rfl (by kernel_rfl) rfl ?_
                  intro ι U hne hU
                  go_big_quiet_op
                  clear hU hne U ι
                  show wpAnyM _ _ _ _ _ _ _ _ _
                  refine mix_skip Keeps.ext 14 rfl (by kernel_rfl) rfl ?_
                  go_big_quiet_skip
                  refine wpQuiet_nil ?_
                  show wpAnyM _ _ _ _ _ _ _ _ _
                  refine mix_skip Keeps.ext 15 rfl (by kernel_rfl) rfl ?_
                  go_big_quiet_skip
                  refine wpQuiet_nil ?_
                  show wpAnyM _ _ _ _ _ _ _ _ _
                  refine mix_skip Keeps.ext 16 rfl (by kernel_rfl) rfl ?_
                  go_big_quiet_skip
                  refine wpQuiet_nil ?_
                  show wpAnyM _ _ _ _ _ _ _ _ _
                  refine mix_skip Keeps.ext 17 rfl (by kernel_rfl) rfl ?_
                  go_big_quiet_skip
                  refine wpQuiet_nil ?_
                  show wpAnyM _ _ _ _ _ _ _ _ _
                  refine mix_skip Keeps.ext 18 rfl (by kernel_rfl) rfl ?_
                  go_big_quiet_skip
                  refine wpQuiet_nil ?_
                  show wpAnyM _ _ _ _ _ _ _ _ _
                  refine mix_skip Keeps.ext 19 rfl (by kernel_rfl) rfl ?_
                  go_big_quiet_skip
                  refine wpQuiet_nil ?_
                  show wpAnyM _ _ _ _ _ _ _ _ _
                  refine mix_skip Keeps.ext 20 rfl (by kernel_rfl) rfl ?_
                  go_big_quiet_skip
                  refine wpQuiet_nil ?_
                  show wpAnyM _ _ _ _ _ _ _ _ _
                  refine mix_skip Keeps.ext 21 rfl (by kernel_rfl) rfl ?_
                  go_big_quiet_skip
                  refine wpQuiet_nil ?_
                  show wpAnyM _ _ _ _ _ _ _ _ _
                  refine mix_skip Keeps.ext 22 rfl (by kernel_rfl) rfl ?_
                  go_big_quiet_skip
                  refine wpQuiet_nil ?_
                  show wpAnyM _ _ _ _ _ _ _ _ _
                  refine mix_skip Keeps.ext 23 rfl (by kernel_rfl) rfl ?_
                  go_big_quiet_skip
                  refine wpQuiet_nil ?_
                  show wpAnyM _ _ _ _ _ _ _ _ _
                  refine mix_skip Keeps.ext 24 rfl (by kernel_rfl) rfl ?_
                  go_big_quiet_skip
                  refine wpQuiet_nil ?_
                  show wpAnyM _ _ _ _ _ _ _ _ _
                  refine mix_skip Keeps.ext 25 rfl (by kernel_rfl) rfl ?_
                  go_big_quiet_skip
                  refine wpQuiet_nil ?_
                  show wpAnyM _ _ _ _ _ _ _ _ _
                  refine mix_skip Keeps.ext 26 rfl (by kernel_rfl) rfl ?_
                  go_big_quiet_skip
                  refine wpQuiet_nil ?_
                  show wpAnyM _ _ _ _ _ _ _ _ _
                  refine mix_quiet Keeps.ext 27 rfl (by kernel_rfl) rfl ?_
                  intro ι U hne hU
                  go_big_quiet_op
                  clear hU hne U ι
                  show wpAnyM _ _ _ _ _ _ _ _ _
                  refine mix_end (by kernel_rfl) ?_
                  go_wp2_with (first | (at_make; refine Stop.un ?_) | (at_builtin; refine Stop.un ?_))
                  go_roundw
                  case rel => exact ⟨e + 1 + 1, by omega, by go_num, z4, bw4⟩
                  case measure => simp [intOf] <;> omega
            · obtain rfl : m = j := by omega
              have bb := HBX.out.next bw
              go_wp2_with (first | (at_make; refine Stop.un ?_) | (at_builtin; refine Stop.un ?_))
              go_ret
              exact ⟨by first | rfl | simp, bb⟩
end Go.Proofs.Ytoggjieagnlneaa
