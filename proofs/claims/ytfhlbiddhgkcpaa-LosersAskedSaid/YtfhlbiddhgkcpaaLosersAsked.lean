/- LosersAsked. -/
import Derived.Test.YtfhlbiddhgkcpaaLosD
import Derived.Test.YtfhlbiddhgkcpaaLosR
import Derived.Deep.DeepCutAuto
import Derived.Deep.CutBlock
set_option linter.unusedVariables false
set_option linter.unusedSimpArgs false
namespace Go.Proofs.Ytfhlbiddhgkcpaa
open Go.RowKit
/-! How far each list has been told: plain. -/
def cur : List (List (List V)) → List Nat → List (List (List V))
  | l :: X, k :: a => l.drop k :: cur X a
  | _, _ => []
theorem cur_length : ∀ (X : List (List (List V))) (a : List Nat), a.length = X.length → (cur X a).length = X.length
  | [], [], _ => rfl
  | [], _ :: _, h => by simp at h
  | _ :: _, [], h => by simp at h
  | l :: X, k :: a, h => by simp only [cur, List.length_cons]; rw [cur_length X a (by simpa using h)]
theorem cur_at : ∀ (X : List (List (List V))) (a : List Nat) (i : Nat) (hx : i < X.length) (ha : i < a.length), (cur X a)[i]? = some (X[i].drop a[i])
  | [], _, _, hx, _ => absurd hx (by simp)
  | _ :: _, [], _, _, ha => absurd ha (by simp)
  | l :: X, k :: a, 0, _, _ => rfl
  | l :: X, k :: a, i + 1, hx, ha => by
    simp only [cur, List.getElem?_cons_succ, List.getElem_cons_succ]
    exact cur_at X a i (by simpa using hx) (by simpa using ha)
theorem cur_set : ∀ (X : List (List (List V))) (a : List Nat) (i k : Nat) (hx : i < X.length), a.length = X.length → cur X (a.set i k) = (cur X a).set i (X[i].drop k)
  | [], _, _, _, hx, _ => absurd hx (by simp)
  | _ :: _, [], _, _, _, h => by simp at h
  | l :: X, x :: a, 0, k, _, _ => rfl
  | l :: X, x :: a, i + 1, k, hx, h => by
    simp only [cur, List.set_cons_succ, List.getElem_cons_succ]
    rw [cur_set X a i k (by simpa using hx) (by simpa using h)]
theorem cur_zero : ∀ (X : List (List (List V))), cur X (List.replicate X.length 0) = X
  | [] => rfl
  | l :: X => by
    simp only [List.length_cons, List.replicate_succ, cur, List.drop_zero]
    rw [cur_zero X]
theorem heads_set (L : List (List (List V))) (i : Nat) (x : List (List V)) : heads (L.set i x) = (heads L).set i x.head? := by simp [heads, List.map_set]
theorem sum_set : ∀ (a : List Nat) (i : Nat) (h : i < a.length), (a.set i (a[i] + 1)).sum = a.sum + 1
  | [], _, h => absurd h (by simp)
  | x :: a, 0, _ => by simp; omega
  | x :: a, i + 1, h => by
    simp only [List.set_cons_succ, List.getElem_cons_succ, List.sum_cons]
    rw [sum_set a i (by simpa using h)]
    omega
theorem sum_full (K : Nat) : ∀ (a : List Nat), (∀ x ∈ a, x ≤ K) → a.sum ≤ K * a.length ∧ (a.sum = K * a.length → ∀ x ∈ a, x = K)
  | [], _ => ⟨by simp, fun _ x hx => by cases hx⟩
  | y :: a, h => by
    obtain ⟨h1, h2⟩ := sum_full K a (fun x hx => h x (List.mem_cons_of_mem _ hx))
    have h3 := h y List.mem_cons_self
    have h4 : K * (y :: a).length = K * a.length + K := by rw [List.length_cons, Nat.mul_succ]
    rw [List.sum_cons, h4]
    refine ⟨by omega, fun e x hx => ?_⟩
    rcases List.mem_cons.1 hx with rfl | hx
    · omega
    · exact h2 (by omega) x hx
/-- The places told so far, of the lists X. -/
structure Told (X : List Lw) (a : List Nat) (c : Nat) : Prop where
  len : a.length = X.length
  le : ∀ i (h : i < a.length) (hx : i < X.length), a[i] ≤ X[i].n
  sum : a.sum = c
theorem Told.start (X : List Lw) : Told X (List.replicate X.length 0) 0 := ⟨by simp, fun i h hx => by simp, by simp⟩
/-- What comes next is a row of list i. -/
theorem told_next {ks : List Ky} {X : List Lw} {a : List Nat} {c i : Nat} {H : List (Option (List V))} (T : Told X a c) (hX : ∀ l ∈ X, l.rs.length = l.n) (hH : H = heads (cur (X.map Lw.rows) a)) (hn : nxt ks H = some i) :
    ∃ (hx : i < X.length) (ha : i < a.length), a[i] < X[i].n ∧ Told X (a.set i (a[i] + 1)) (c + 1) ∧ heads (cur (X.map Lw.rows) (a.set i (a[i] + 1))) = H.set i ((X[i].rows.drop (a[i] + 1)).head?) := by
  obtain ⟨h1, h2, _⟩ := nxt_is ks H hn
  have hl : a.length = (X.map Lw.rows).length := by rw [List.length_map]; exact T.len
  have hx : i < X.length := by
    rw [hH] at h2
    simp only [heads, List.length_map] at h2
    rw [cur_length _ _ hl, List.length_map] at h2
    exact h2
  have ha : i < a.length := by rw [T.len]; exact hx
  have hxm : i < (X.map Lw.rows).length := by rw [List.length_map]; exact hx
  have hlt : a[i] < X[i].n := by
    rw [hH, gt_heads, List.getD_eq_getElem?_getD, cur_at _ _ i hxm ha] at h1
    rcases Nat.lt_or_ge a[i] X[i].n with h3 | h3
    · exact h3
    · exfalso
      have h4 := hX X[i] (List.getElem_mem _)
      have h5 : (X.map Lw.rows)[i].drop a[i] = [] := by
        rw [List.drop_eq_nil_iff]
        simp only [List.getElem_map, Lw.rows, List.length_map]
        omega
      rw [h5] at h1
      cases h1
  refine ⟨hx, ha, hlt, ⟨by rw [List.length_set]; exact T.len, fun j hj hxj => ?_, by rw [sum_set, T.sum]⟩, ?_⟩
  · rw [List.length_set] at hj
    rw [List.getElem_set]
    split
    · rename_i e
      subst e
      omega
    · exact T.le j hj hxj
  · rw [cur_set _ _ i _ hxm hl, heads_set, hH]
    simp only [List.getElem_map]
/-- All are told where nothing comes next. -/
theorem told_end {ks : List Ky} {X : List Lw} {a : List Nat} {c : Nat} {H : List (Option (List V))} (T : Told X a c) (hX : ∀ l ∈ X, l.rs.length = l.n) (hH : H = heads (cur (X.map Lw.rows) a)) (hn : nxt ks H = none) :
    ∀ i (h : i < a.length) (hx : i < X.length), a[i] = X[i].n := fun i h hx => by
  have hg := nxt_none_is ks hn i
  have hxm : i < (X.map Lw.rows).length := by rw [List.length_map]; exact hx
  rw [hH, gt_heads, List.getD_eq_getElem?_getD, cur_at _ _ i hxm h] at hg
  have h1 := T.le i h hx
  have h4 := hX X[i] (List.getElem_mem _)
  simp only [Option.getD_some, List.getElem_map, List.head?_eq_none_iff, List.drop_eq_nil_iff, Lw.rows, List.length_map] at hg
  omega
/-- All are told after that many rounds. -/
theorem told_full {X : List Lw} {a : List Nat} (T : Told X a (30 * X.length)) (hX : ∀ l ∈ X, l.n ≤ 30) :
    ∀ i (h : i < a.length) (hx : i < X.length), a[i] = X[i].n := fun i h hx => by
  have h1 : ∀ x ∈ a, x ≤ 30 := fun x hm => by
    obtain ⟨j, hj, rfl⟩ := List.getElem_of_mem hm
    have hjx : j < X.length := by rw [← T.len]; exact hj
    exact Nat.le_trans (T.le j hj hjx) (hX _ (List.getElem_mem _))
  have h2 := (sum_full 30 a h1).2 (by rw [T.sum, T.len]) a[i] (List.getElem_mem _)
  have h3 := T.le i h hx
  have h4 := hX X[i] (List.getElem_mem _)
  omega
/-- What lies where while the lists are told. -/
structure AsM (w0 : World) (wN gA : Nat) (tr : Tr) (ks : List Ky) (h : Nat) (a : List Nat) (H : List Rw) (q : Nat) (S : List Nat) (v : Nat) (w : World) : Prop where
  b : Below w0.heap.size w0 w
  z : At w gA (a.map (fun k : Nat => Value.int .i64 k)).toArray 3
  G : Gd tr H ks q (fun k => k < wN ∨ k = gA) w h S v
  m : ∀ k, tr.mut k → w0.heap.size ≤ k
section
variable {w0 w x : World} {wN gA : Nat} {tr : Tr} {ks : List Ky} {h : Nat} {a : List Nat} {H : List Rw} {q : Nat} {S : List Nat} {v : Nat}
theorem AsM.below (M : AsM w0 wN gA tr ks h a H q S v w) (b : Below w.heap.size w x) : AsM w0 wN gA tr ks h a H q S v x := ⟨M.b.next b, M.z.mono b, M.G.below b, M.m⟩
theorem AsM.step (M : AsM w0 wN gA tr ks h a H q S v w) (hg : w0.heap.size ≤ gA) (i k : Nat) : AsM w0 wN gA tr ks h (a.set i k) H q S v (w.setCell ⟨gA, i, none⟩ (.int .i64 (k : Int))) := by
  have o : Oth (fun k => k = gA) w (w.setCell ⟨gA, i, none⟩ (.int .i64 (k : Int))) := (Oth.refl _ w).set _ _ (.inl rfl)
  refine ⟨M.b.setCell (p := ⟨gA, i, none⟩) hg _, ?_, M.G.oth o (fun k _ hk => .inr hk), M.m⟩
  have := M.z.set i (.int .i64 (k : Int))
  rwa [show (a.map (fun k : Nat => Value.int .i64 k)).toArray.setIfInBounds i (.int .i64 (k : Int)) = ((a.set i k).map (fun k : Nat => Value.int .i64 k)).toArray by simp [List.map_set]] at this
theorem AsM.put (M : AsM w0 wN gA tr ks h a H q S v w) (o : Oth tr.mut w x) {H' : List Rw} {q' : Nat} {S' : List Nat} {v' : Nat} (G' : Gd tr H' ks q' (fun k => k < wN ∨ k = gA) x h S' v') : AsM w0 wN gA tr ks h a H' q' S' v' x :=
  ⟨M.b.trans (o.low M.m M.b.size), o.at M.z (fun hm => M.G.T.notA _ hm (.inr rfl)), G', M.m⟩
end
set_option maxRecDepth 100000 in
set_option maxHeartbeats 8000000 in
theorem losersAsked_any (a1 : Option Addr) (n1 c1 : Nat) (l1 : List Lw) (ak : Option Addr) (p ck : Nat) (ks : List Ky) (w : World)
    (h1 : Lists w a1 l1) (e1 : l1.length = n1) (m1 : n1 ≤ c1) (cm1 : c1 ≤ maxLen)
    (hk : Cs w ak (kcells ks)) (hp : ks.length = p) (hlp : p ≤ ck) (hcm : ck ≤ maxLen) :
    Calls Try.prog 4 #[.slice a1 n1 c1, .slice ak p ck] w (fun e w' => e = .returned (.bool true) ∧ Below w.heap.size w w') := by
  have HSK := Lib.hid (fun w => some_any16 ak p ck w hlp hcm)
  have HFW := Lib.hid (fun W (h : Lists W a1 l1) => few_any16 a1 n1 c1 l1 W h e1 m1 cm1)
  obtain ⟨t1, f1, f2, f3⟩ := few_take16 h1
  have hfl : fewL 0 l1 ≤ c1 := by have := fewL_le l1 0; omega
  generalize l1.take (fewL 0 l1) = Y at t1 f1 f3
  generalize fewL 0 l1 = i1 at HFW f1 f2 hfl
  have HMIN := Lib.hid (show min (i1 : Int) 16 = ((min i1 16 : Nat) : Int) by omega)
  have t2 := t1.take (min i1 16)
  have g1 : (Y.take (min i1 16)).length = min i1 16 := by rw [List.length_take]; omega
  have g3 : ∀ l ∈ Y.take (min i1 16), l.n ≤ 30 ∧ ∀ r ∈ l.rs, r.n ≤ 20 := fun l hl => f3 l (List.mem_of_mem_take hl)
  have hm16 : min i1 16 ≤ 16 := by omega
  have hmc : min i1 16 ≤ c1 := by omega
  have hmi : min i1 16 ≤ i1 := by omega
  generalize Y.take (min i1 16) = X at t2 g1 g3
  generalize min i1 16 = m at HMIN g1 hm16 hmc t2 g3 hmi
  have hkx : (ks.take (min p 10)).length = min p 10 := by simp; omega
  have kx := kcut hk (min p 10)
  have hkc : min p 10 ≤ ck := by omega
  have hk10 : min p 10 ≤ 10 := by omega
  generalize ks.take (min p 10) = kk at hkx kx
  generalize min p 10 = f at hkx hkc HSK hk10
  have HXX := Lib.hid (And.intro g1 g3)
  have HKX := Lib.hid (And.intro t2 kx)
  have HNW := Lib.hid (fun ab cb (Hs : List Rw) W T hX hc hcm' hn kx => new_any ab m cb Hs ak f ck kk W T hX hc hcm' hm16 hn kx hkx hkc hcm (by omega))
  clear hp hk hkx e1 t1 f1 f3 g1 g3 t2 kx
  unfold maxLen at cm1
  go_enter Try.func4, Try.ntmps4
  go_wp2_with (first | (at_make; refine Stop.un ?_) | (at_builtin; refine Stop.un ?_))
  refine (shown_any16 _).mono ?_
  rintro e wb ⟨rfl, b0⟩
  replace h1 := h1.mono b0
  have HF1 := Lib.hid (HFW.out wb h1)
  clear HFW h1
  go_wp2_with (first | (at_make; refine Stop.un ?_) | (at_builtin; refine Stop.un ?_))
  refine HF1.out.mono ?_
  rintro e w2 ⟨rfl, b2⟩
  have b3 := b0.next b2
  clear b0 b2 HF1
  go_wp2_with (first | (at_make; refine Stop.un ?_) | (at_builtin; refine Stop.un ?_))
  refine (HSK.out _).mono ?_
  rintro e w3 ⟨rfl, rfl⟩
  go_wp2_with (first | (at_make; refine Stop.un ?_) | (at_builtin; refine Stop.un ?_) | (with_reducible refine Stop.slice ?_))
  rw [HMIN.out]
  refine Stop.mk ?_
  clear HMIN HSK
  go_wp2_with (first | (at_make; refine Stop.un ?_) | (at_builtin; refine Stop.un ?_))
  go_loopw [32, 8] (fun i v wr => ∃ (j : Nat) (ab : Option Addr) (cb : Nat) (Hs : List Rw), j ≤ m ∧ i = .int .i64 (j : Int) ∧ v = .slice ab j cb ∧ OwnRs w wr (.slice ab j cb) j Hs ∧ Off wr (.slice ab j cb) Hs ∧ Hid (hds Hs = heads ((X.take j).map Lw.rows) ∧ ∀ r ∈ Hs, r.n ≤ 20)) (fun i _ _ => m - (intOf i).toNat)
  case atStart => exact ⟨0, none, 0, [], Nat.zero_le _, rfl, rfl, Own.nil _ _ b3, (fun r hr => by cases hr), Lib.hid ⟨rfl, fun r hr => by cases hr⟩⟩
  case round =>
    obtain ⟨j, ab, cb, Hs, hj, rfl, rfl, O, F, HX⟩ := hrel
    by_cases hlt : j < m
    · have hjl : j < X.length := by have := HXX.out.1; omega
      have t2 := HKX.out.1.mono (Own.below O)
      obtain ⟨b, o, rfl⟩ := t2.cs.addr (by rw [lwcells_length]; omega)
      have x0 := t2.at hjl
      have lk := t2.ok X[j] (List.getElem_mem _)
      have hx3 := Lib.hid (HXX.out.2 X[j] (List.getElem_mem _))
      have HTK : Hid (X.take (j + 1) = X.take j ++ [X[j]]) := Lib.hid (by rw [List.take_succ_eq_append_getElem hjl])
      generalize X[j] = l at x0 lk hx3 HTK
      have hlc := lk.le
      have hlm : l.cap ≤ 9223372036854775807 := lk.max
      clear hjl t2
      by_cases hn0 : 0 < l.n
      · have hd3 : decide ((0 : Int) < (l.n : Int)) = true := decide_eq_true (by omega)
        have hl0 : 0 < l.rs.length := by have := lk.len; omega
        obtain ⟨la, ln, lc, lr⟩ := l
        obtain ⟨b5, o5, rfl⟩ := lk.tab.cs.addr (by rw [rwcells_length]; exact hl0)
        have y0 := lk.tab.at hl0
        rw [Nat.add_zero] at y0
        have rk := lk.tab.ok lr[0] (List.getElem_mem _)
        have HR0 := Lib.hid (hx3.out.2 lr[0] (List.getElem_mem _))
        have HHD : Hid ((Lw.rows ⟨some ⟨b5, o5, none⟩, ln, lc, lr⟩).head? = some lr[0].l) := Lib.hid (by
          cases lr with
          | nil => simp at hl0
          | cons x y => rfl)
        generalize lr[0] = r at y0 rk HR0 HHD
        simp only at hlc hlm hn0 hd3 x0
        have hrle := rk.le
        have hrmx : r.cap ≤ 9223372036854775807 := rk.max
        have hS : OwnV wr (wr.alloc (.cells #[] 38)) (.slice (some ⟨wr.heap.size, 0, none⟩) 0 0) 0 [] := Own.block (Below.refl _ _) rfl (by decide)
        have hcs := rk.cs.alloc (.cells #[] 38)
        have HRK := Lib.hid (And.intro rk.len rk.kind)
        have hr20 := HR0.out
        have yl := lt_cell y0
        clear rk hl0 lk
        go_wp2_with (first | (at_make; refine Stop.un ?_) | (at_builtin; refine Stop.un ?_))
        refine Stop.mk (app_rsk wr _ _ rfl rfl hS rfl rfl HRK.out.1 hcs (by omega) ?_)
        intro a4 c4 w4 O4 g4 k4
        simp only [Nat.zero_add, List.nil_append] at O4 ⊢
        have bt := Own.below O4
        have q0 : RowOk w4 ⟨some ⟨a4, 0, none⟩, r.n, c4, r.l⟩ := ⟨Own.cs O4, HRK.out.1, owns_le O4.1, owns_max O4.1, HRK.out.2⟩
        have F4 := F.below bt
        have O5 := Own.keep O bt
        have hq : ∀ a, (⟨some ⟨a4, 0, none⟩, r.n, c4, r.l⟩ : Rw).a = some a → a.block < w4.heap.size ∧ (Value.slice ab j cb).ownBlock ≠ some a.block := fun a ha => by
          obtain rfl := Option.some.inj ha
          have h1 := Own.ge O4 a4 rfl
          have h2 := Own.lt O4 a4 rfl
          exact ⟨h2, fun e => by have := Own.lt O _ e; simp only at this; omega⟩
        clear hS hcs g4 k4 O F O4 bt
        go_wp2_with (first | (at_make; refine Stop.un ?_) | (at_builtin; refine Stop.un ?_))
        refine Stop.mk (app_rw1 (r := ⟨some ⟨a4, 0, none⟩, r.n, c4, r.l⟩) w _ _ rfl rfl O5 rfl rfl (by omega) ?_)
        intro a6 c6 w6 O6 g6 k6
        have F6 : Off w6 (.slice a6 (j + 1) c6) (Hs ++ [⟨some ⟨a4, 0, none⟩, r.n, c4, r.l⟩]) := Off.grown (v := .slice ab j cb) (fun x hx => by
          rcases List.mem_append.1 hx with hx | hx
          · exact F4 x hx
          · rw [List.mem_singleton.1 hx]; exact ⟨q0, hq⟩) g6 k6
        have HX2 : Hid (hds (Hs ++ [(⟨some ⟨a4, 0, none⟩, r.n, c4, r.l⟩ : Rw)]) = heads ((X.take (j + 1)).map Lw.rows) ∧ ∀ y ∈ Hs ++ [(⟨some ⟨a4, 0, none⟩, r.n, c4, r.l⟩ : Rw)], y.n ≤ 20) := Lib.hid ⟨by
          have h1 := HX.out.1
          rw [HTK.out]
          unfold hds heads at h1 ⊢
          rw [List.map_append, List.map_append, List.map_append, h1]
          congr 1
          show [some r.l] = [_]
          rw [HHD.out], fun y hy => by
          rcases List.mem_append.1 hy with hy | hy
          · exact HX.out.2 y hy
          · rw [List.mem_singleton.1 hy]; exact HR0.out⟩
        clear O5 g6 k6 F4 q0 hq HX HRK HTK HR0 HHD x0 y0 yl
        go_wp2_with (first | (at_make; refine Stop.un ?_) | (at_builtin; refine Stop.un ?_))
        go_roundw
        case rel => exact ⟨j + 1, a6, c6, _, by omega, by go_num, rfl, O6, F6, HX2⟩
        case measure => simp [intOf]; omega
      · have hd3 : decide ((0 : Int) < (l.n : Int)) = false := decide_eq_false (by omega)
        have HHD : Hid (l.rows = []) := Lib.hid (List.eq_nil_of_length_eq_zero (by unfold Lw.rows; rw [List.length_map, lk.len]; omega))
        clear lk
        go_wp2_with (first | (at_make; refine Stop.un ?_) | (at_builtin; refine Stop.un ?_))
        refine Stop.mk (app_rw1 (r := nilRw) w _ _ rfl rfl O rfl rfl (by omega) ?_)
        intro a6 c6 w6 O6 g6 k6
        have F6 : Off w6 (.slice a6 (j + 1) c6) (Hs ++ [nilRw]) := Off.grown (v := .slice ab j cb) (fun x hx => by
          rcases List.mem_append.1 hx with hx | hx
          · exact F x hx
          · rw [List.mem_singleton.1 hx]; exact ⟨nilRw_ok _, fun a ha => by cases ha⟩) g6 k6
        have HX2 : Hid (hds (Hs ++ [nilRw]) = heads ((X.take (j + 1)).map Lw.rows) ∧ ∀ y ∈ Hs ++ [nilRw], y.n ≤ 20) := Lib.hid ⟨by
          have h1 := HX.out.1
          rw [HTK.out]
          unfold hds heads at h1 ⊢
          rw [List.map_append, List.map_append, List.map_append, h1]
          congr 1
          show [none] = [_]
          rw [HHD.out]; rfl, fun y hy => by
          rcases List.mem_append.1 hy with hy | hy
          · exact HX.out.2 y hy
          · rw [List.mem_singleton.1 hy]; exact Nat.zero_le _⟩
        clear O g6 k6 F HX HTK HHD
        go_wp2_with (first | (at_make; refine Stop.un ?_) | (at_builtin; refine Stop.un ?_))
        go_roundw
        case rel => exact ⟨j + 1, a6, c6, _, by omega, by go_num, rfl, O6, F6, HX2⟩
        case measure => simp [intOf]; omega
    · obtain rfl : j = m := by omega
      have T : Tab wr ab Hs := ⟨Own.cs O, fun r hr => (F r hr).1⟩
      have hle := owns_le O.1
      have hmx : cb ≤ maxLen := owns_max O.1
      have bx := Own.below O
      have kx := HKX.out.2.mono bx (Nat.le_refl _)
      have HHH : Hid (hds Hs = heads (X.map Lw.rows)) := Lib.hid (by rw [HX.out.1, List.take_of_length_le (Nat.le_of_eq HXX.out.1)])
      have HN1 := Lib.hid (HNW.out ab cb Hs wr T (OwnRs.length O) hle hmx (fun r hr => by have := HX.out.2 r hr; omega) kx)
      unfold maxLen at hmx
      clear O F T kx HNW HX
      go_wp2_with (first | (at_make; refine Stop.un ?_) | (at_builtin; refine Stop.un ?_))
      refine HN1.out.mono ?_
      rintro e wT ⟨tr, H, q, h, S, v, rfl, G, hH, hq, hh0, bN, hm, hmh⟩
      have bT := bx.next bN
      have hwN := bx.size
      have h4 := G.h4
      have HHN : Hid (hds H = heads (X.map Lw.rows) ∧ (∀ k, tr.mut k → wr.heap.size ≤ k) ∧ w.heap.size ≤ wr.heap.size ∧ wr.heap.size ≤ wT.heap.size) := Lib.hid ⟨hH.trans HHH.out, hm, hwN, bN.size⟩
      have HQ := Lib.hid hq
      have HP := Lib.hid (And.intro hh0 hmh)
      have hdq : decide (max ((j : Int) - 1) 0 < (q : Int)) = false := decide_eq_false (by omega)
      have HA := Lib.hid (asked_any wT G.T)
      have hq16 : q ≤ 16 := by omega
      clear HN1 bx bN hm hH hq hh0 hmh HHH hwN
      generalize wr.heap.size = wN at G HHN
      go_wp2_with (first | (at_make; refine Stop.un ?_) | (at_builtin; refine Stop.un ?_))
      refine HA.out.mono ?_
      rintro e w5 ⟨rfl, b5⟩
      replace G := G.below b5
      have b6 := bT.next b5
      have HHN2 : Hid (wN ≤ w5.heap.size) := Lib.hid (Nat.le_trans HHN.out.2.2.2 b5.size)
      clear HA b5 bT
      go_wp2_with (first | (at_make; refine Stop.un ?_) | (at_builtin; refine Stop.un ?_))
      go_loopw [13] (fun hv wr => ∃ e : Nat, hv = .int .i64 (e : Int) ∧ e ≤ h ∧ wr = w5) (fun hv _ => h - (intOf hv).toNat)
      case atStart => exact ⟨0, rfl, Nat.zero_le _, by first | rfl | trivial⟩
      case round =>
        obtain ⟨e, rfl, he, rfl⟩ := hrel
        have HL : Hid ((2 ^ e < j → e < h) ∧ (¬ 2 ^ e < j → e = h)) := Lib.hid (by
          obtain ⟨p1, p2⟩ := HP.out
          refine ⟨fun h1 => ?_, fun h1 => ?_⟩
          · rcases Nat.lt_or_ge e h with h2 | h2
            · exact h2
            · have : e = h := by omega
              subst this
              omega
          · rcases p1 with p1 | p1
            · omega
            · rcases Nat.lt_or_ge e h with h2 | h2
              · have := Nat.pow_le_pow_right (show 0 < 2 by omega) (show e ≤ h - 1 by omega)
                omega
              · omega)
        have HW : wrap64 ((2 : Int) ^ e) = ((2 ^ e : Nat) : Int) := by
          have h1 : (2 : Int) ^ e = ((2 ^ e : Nat) : Int) := by rw [Int.natCast_pow]; rfl
          have h2 := pow4 (show e ≤ 4 by omega)
          rw [h1]
          generalize (2 ^ e : Nat) = y at h2 ⊢
          unfold wrap64; omega
        by_cases hlt : 2 ^ e < j
        · have hd : decide (wrap64 ((2 : Int) ^ e) < (j : Int)) = true := decide_eq_true (by rw [HW]; omega)
          have hlh := HL.out.1 hlt
          clear HW hlt HL
          go_wp2_with (first | (at_make; refine Stop.un ?_) | (at_builtin; refine Stop.un ?_))
          go_roundw
          case rel => exact ⟨e + 1, by go_num, by omega, by first | rfl | trivial⟩
          case measure => simp [intOf]; omega
        · have hd : decide (wrap64 ((2 : Int) ^ e) < (j : Int)) = false := decide_eq_false (by rw [HW]; omega)
          obtain rfl := HL.out.2 hlt
          clear HW hlt HL
          obtain ⟨i0, hi, hz0, hz1, hz2⟩ := info_parts Try.infoI64
          go_wp2_with (first | (at_make; refine Stop.un ?_) | (at_builtin; refine Stop.un ?_))
          refine Stop.mk (wpList_make_full _ rfl _ _ 43 rfl w.heap.size 3 i0 (.int .i64 0) 1 Try.underlying43 hi hz0 hz1 _ _ _ _ j rfl rfl rfl rfl (by rw [hz2]; omega) (by unfold maxLen; omega) b6.size ?_)
          intro w7 o7 g7
          have b7 : Below wr.heap.size wr w7 := (Below.refl _ _).grown g7 (Nat.le_refl _) (fun _ h => by cases h)
          have k7 : At w7 wr.heap.size (madeCells (Value.int .i64 0).cells (j * 1)).toList.toArray 3 := own_at15 o7
          rw [show (madeCells (Value.int .i64 0).cells (j * 1)).toList = (List.replicate j 0).map (fun k : Nat => Value.int .i64 k) from by simp [Value.cells, toList_madeCells_one]] at k7
          have hT := Told.start X
          have hC := cur_zero (X.map Lw.rows)
          rw [HXX.out.1] at hT
          rw [List.length_map, HXX.out.1] at hC
          generalize List.replicate j (0 : Nat) = a at k7 hT hC
          have M : AsM w wN wr.heap.size tr kk e a H q S v w7 := ⟨b6.next b7, k7, G.more b7 (fun k hk => by
            have h1 := HHN2.out
            have h2 := b7.size
            have h3 := k7.lt
            rcases hk with h5 | h5
            · exact ⟨.inl h5, by omega⟩
            · exact ⟨.inr (by omega), by omega⟩), fun k hk => Nat.le_trans HHN.out.2.2.1 (HHN.out.2.1 k hk)⟩
          have HGA : Hid (w.heap.size ≤ wr.heap.size) := Lib.hid b6.size
          have HT0 := Lib.hid hT
          have HC0 : Hid (hds H = heads (cur (X.map Lw.rows) a)) := Lib.hid (by rw [hC]; exact HHN.out.1)
          generalize wr.heap.size = gA at M HGA
          clear o7 g7 hz2 hz1 hz0 hi i0 k7 b7 G b6 HHN HHN2 hT hC b3 HP HQ
          have HQ : Hid (q ≤ 16 + 4 * 0) := Lib.hid (by omega)
          go_upto_block 4 with fail
          go_cut [15, 16, 17, 18] from 85 to 156 (fun _ _ _ _ wx => ∃ (a : List Nat) (H : List Rw) (q : Nat) (S : List Nat) (v : Nat), AsM w wN gA tr kk e a H q S v wx ∧ Hid (a.length = X.length ∧ ∀ i (h : i < a.length) (hx : i < X.length), a[i] = X[i].n))
          case first =>
            go_wp2_with fail
            go_loopw [85] (fun cv wr => ∃ (c : Nat) (a : List Nat) (H : List Rw) (q : Nat) (S : List Nat) (v : Nat), c ≤ 30 * j ∧ cv = .int .i64 (c : Int) ∧ AsM w wN gA tr kk e a H q S v wr ∧ Hid (Told X a c) ∧ Hid (hds H = heads (cur (X.map Lw.rows) a)) ∧ Hid (q ≤ 16 + 4 * c)) (fun cv _ => 30 * j - (intOf cv).toNat)
            case atStart => exact ⟨0, a, H, q, S, v, Nat.zero_le _, rfl, M, HT0, HC0, HQ⟩
            case round =>
              clear M HT0 HC0 HQ
              obtain ⟨c, a, H, q, S, v, hc, rfl, M, HT, HC, HQ⟩ := hrel
              by_cases hlt : c < 30 * j
              · have HNX := Lib.hid (next_any _ _ _ _ _ _ _ _ _ M.G)
                have LX := HKX.out.1.mono M.b
                cases hnx : nxt kk (hds H) with
                | none =>
                  have HE : Hid (a.length = X.length ∧ ∀ i (h : i < a.length) (hx : i < X.length), a[i] = X[i].n) := Lib.hid ⟨HT.out.len, told_end HT.out (fun l hl => (LX.ok l hl).len) HC.out hnx⟩
                  rw [hnx] at HNX
                  clear LX hnx HT HC
                  go_wp2_with (first | (at_make; refine Stop.un ?_) | (at_builtin; refine Stop.un ?_))
                  refine HNX.out.mono ?_
                  rintro e2 w2 ⟨rfl, b2⟩
                  replace M := M.below b2
                  unfold nextV
                  clear HNX b2
                  go_wp2_with (first | (at_make; refine Stop.un ?_) | (at_builtin; refine Stop.un ?_))
                  go_meet
                  exact ⟨a, H, q, S, v, M, HE⟩
                | some i =>
                  obtain ⟨hx, ha, hai, T2, hC2⟩ := told_next HT.out (fun l hl => (LX.ok l hl).len) HC.out hnx
                  have hij : i < j := by have := HXX.out.1; omega
                  have x0 := LX.cs.addr (by rw [lwcells_length]; omega)
                  obtain ⟨b, o, rfl⟩ := x0
                  have HXC := Lib.hid (fun W (B : Below w.heap.size w W) => And.intro ((HKX.out.1.mono B).at hx) ((HKX.out.1.mono B).ok X[i] (List.getElem_mem _)))
                  have hx3 := HXX.out.2 X[i] (List.getElem_mem _)
                  have y0 : wr.cell? ⟨gA, i, none⟩ = some (.int .i64 (a[i] : Int)) := M.z.cell i (by simp [ha])
                  have HNI := Lib.hid hnx
                  rw [hnx] at HNX
                  obtain ⟨k, hk⟩ : ∃ k, k = a[i] + 1 := ⟨_, rfl⟩
                  rw [← hk] at T2 hC2
                  have HT2 := Lib.hid T2
                  have HC2 := Lib.hid hC2
                  generalize hai2 : a[i] = ai at y0 hai hk
                  generalize X[i] = l at HXC hx3 hai HC2
                  obtain ⟨la, ln, lc, lr⟩ := l
                  obtain ⟨x0, lk⟩ := HXC.out wr M.b
                  simp only at hai x0
                  have hl9 : lr.length = ln := lk.len
                  obtain ⟨b5, o5, rfl⟩ := lk.tab.cs.addr (by rw [rwcells_length]; show 0 < lr.length; omega)
                  have HX3 := Lib.hid hx3
                  have hlc : ln ≤ lc := lk.le
                  have hlm : lc ≤ 9223372036854775807 := lk.max
                  have hl30 : ln ≤ 30 := hx3.1
                  have hd1 : decide ((i : Int) < 0) = false := decide_eq_false (by omega)
                  have hd2 : decide (j ≤ i) = false := decide_eq_false (by omega)
                  have hd3 : decide (ln ≤ ai) = false := decide_eq_false (by omega)
                  have HAL := Lib.hid ha
                  clear LX hnx HT HC T2 hC2 lk hx3 ha hx hai2 hl9
                  go_wp2_with (first | (at_make; refine Stop.un ?_) | (at_builtin; refine Stop.un ?_))
                  refine HNX.out.mono ?_
                  rintro e2 w2 ⟨rfl, b2⟩
                  replace M := M.below b2
                  replace x0 := Ext.cell b2 x0
                  replace y0 := Ext.cell b2 y0
                  unfold nextV
                  clear HNX b2
                  go_upto_region 23 with fail
                  refine mix_startE 20 rfl (by kernel_rfl) ?_
                  intro xq hxq
                  replace x0 := Ext.cell hxq x0
                  replace y0 := Ext.cell hxq y0
                  have b4 := hxq
                  clear hxq
                  refine mix_quiet Keeps.ext 0 rfl (by kernel_rfl) rfl ?_
                  intro ι U hne hU
                  go_big_quiet_op
                  clear hU hne U ι
                  show wpAnyM _ _ _ _ _ _ _ _ _
                  refine mix_quiet Keeps.ext 1 rfl (by kernel_rfl) rfl ?_
                  intro ι U hne hU
                  go_big_quiet_op
                  clear hU hne U ι
                  show wpAnyM _ _ _ _ _ _ _ _ _
                  refine mix_quiet Keeps.ext 2 rfl (by kernel_rfl) rfl ?_
                  intro ι U hne hU
                  go_big_quiet_op
                  clear hU hne U ι
                  show wpAnyM _ _ _ _ _ _ _ _ _
                  refine mix_quiet Keeps.ext 3 rfl (by kernel_rfl) rfl ?_
                  intro ι U hne hU
                  go_big_quiet_op
                  clear hU hne U ι
                  show wpAnyM _ _ _ _ _ _ _ _ _
                  refine mix_quiet Keeps.ext 4 rfl (by kernel_rfl) rfl ?_
                  intro ι U hne hU
                  go_big_quiet_op
                  clear hU hne U ι
                  show wpAnyM _ _ _ _ _ _ _ _ _
                  refine mix_quiet Keeps.ext 5 rfl (by kernel_rfl) rfl ?_
                  intro ι U hne hU
                  go_big_quiet_op
                  clear hU hne U ι
                  show wpAnyM _ _ _ _ _ _ _ _ _
                  refine mix_quiet Keeps.ext 6 rfl (by kernel_rfl) rfl ?_
                  intro ι U hne hU
                  go_big_quiet_op
                  clear hU hne U ι
                  show wpAnyM _ _ _ _ _ _ _ _ _
                  refine mix_quiet Keeps.ext 7 rfl (by kernel_rfl) rfl ?_
                  intro ι U hne hU
                  go_big_quiet_op
                  clear hU hne U ι
                  show wpAnyM _ _ _ _ _ _ _ _ _
                  refine mix_quiet Keeps.ext 8 rfl (by kernel_rfl) rfl ?_
                  intro ι U hne hU
                  go_big_quiet_op
                  clear hU hne U ι
                  show wpAnyM _ _ _ _ _ _ _ _ _
                  refine mix_quiet Keeps.ext 9 rfl (by kernel_rfl) rfl ?_
                  intro ι U hne hU
                  go_big_quiet_op
                  clear hU hne U ι
                  show wpAnyM _ _ _ _ _ _ _ _ _
                  refine mix_quiet Keeps.ext 10 rfl (by kernel_rfl) rfl ?_
                  intro ι U hne hU
                  go_big_quiet_op
                  clear hU hne U ι
                  show wpAnyM _ _ _ _ _ _ _ _ _
                  refine mix_quiet Keeps.ext 11 rfl (by kernel_rfl) rfl ?_
                  intro ι U hne hU
                  go_big_quiet_op
                  clear hU hne U ι
                  show wpAnyM _ _ _ _ _ _ _ _ _
                  refine mix_quiet Keeps.ext 12 rfl (by kernel_rfl) rfl ?_
                  intro ι U hne hU
                  have hcw0 := fun ii => (hU ii).cell x0
                  have hcw1 := fun ii => (hU ii).cell y0
                  go_big_quiet_op
                  clear hU hne hcw0 hcw1 U ι
                  show wpAnyM _ _ _ _ _ _ _ _ _
                  refine mix_quiet Keeps.ext 13 rfl (by kernel_rfl) rfl ?_
                  intro ι U hne hU
                  go_big_quiet_op
                  clear hU hne U ι
                  show wpAnyM _ _ _ _ _ _ _ _ _
                  refine mix_quiet Keeps.ext 14 rfl (by kernel_rfl) rfl ?_
                  intro ι U hne hU
                  go_big_quiet_op
                  clear hU hne U ι
                  show wpAnyM _ _ _ _ _ _ _ _ _
                  refine mix_quiet Keeps.ext 15 rfl (by kernel_rfl) rfl ?_
                  intro ι U hne hU
                  go_big_quiet_op
                  clear hU hne U ι
                  show wpAnyM _ _ _ _ _ _ _ _ _
                  refine mix_quiet Keeps.ext 16 rfl (by kernel_rfl) rfl ?_
                  intro ι U hne hU
                  have hcw0 := fun ii => (hU ii).cell x0
                  have hcw1 := fun ii => (hU ii).cell y0
                  go_big_quiet_op
                  clear hU hne hcw0 hcw1 U ι
                  show wpAnyM _ _ _ _ _ _ _ _ _
                  refine mix_quiet Keeps.ext 17 rfl (by kernel_rfl) rfl ?_
                  intro ι U hne hU
                  go_big_quiet_op
                  clear hU hne U ι
                  show wpAnyM _ _ _ _ _ _ _ _ _
                  refine mix_quiet Keeps.ext 18 rfl (by kernel_rfl) rfl ?_
                  intro ι U hne hU
                  go_big_quiet_op
                  clear hU hne U ι
                  show wpAnyM _ _ _ _ _ _ _ _ _
                  refine mix_quiet Keeps.ext 19 rfl (by kernel_rfl) rfl ?_
                  intro ι U hne hU
                  go_big_quiet_op
                  clear hU hne U ι
                  show wpAnyM _ _ _ _ _ _ _ _ _
                  refine mix_end (by kernel_rfl) ?_
                  replace M := M.below b4
                  clear b4
                  have f0 := M.z.free i
                  have yl := lt_cell y0
                  have M2 := M.step HGA.out i k
                  rw [show (k : Int) = (ai : Int) + 1 by omega] at M2
                  go_upto_region 26 with fail
                  have y2 : (xq.setCell ⟨gA, i, none⟩ (.int .i64 ((ai : Int) + 1))).cell? ⟨gA, i, none⟩ = some (.int .i64 (k : Int)) := M2.z.cell i (by simp [HAL.out])
                  have x2 : (xq.setCell ⟨gA, i, none⟩ (.int .i64 ((ai : Int) + 1))).cell? ⟨b, o + i, none⟩ = some (.slice (some ⟨b5, o5, none⟩) ln lc) := (HXC.out _ M2.b).1
                  generalize xq.setCell ⟨gA, i, none⟩ (.int .i64 ((ai : Int) + 1)) = w5 at M2 y2 x2 ⊢
                  clear M f0 yl x0 y0 hd1 hd2 hd3 hk hai
                  go_upto_region 27 with fail
                  refine mix_startE 10 rfl (by kernel_rfl) ?_
                  intro xq hxq
                  replace x2 := Ext.cell hxq x2
                  replace y2 := Ext.cell hxq y2
                  have b6 := hxq
                  clear hxq
                  refine mix_quiet Keeps.ext 0 rfl (by kernel_rfl) rfl ?_
                  intro ι U hne hU
                  go_big_quiet_op
                  clear hU hne U ι
                  show wpAnyM _ _ _ _ _ _ _ _ _
                  refine mix_quiet Keeps.ext 1 rfl (by kernel_rfl) rfl ?_
                  intro ι U hne hU
                  go_big_quiet_op
                  clear hU hne U ι
                  show wpAnyM _ _ _ _ _ _ _ _ _
                  refine mix_quiet Keeps.ext 2 rfl (by kernel_rfl) rfl ?_
                  intro ι U hne hU
                  go_big_quiet_op
                  clear hU hne U ι
                  show wpAnyM _ _ _ _ _ _ _ _ _
                  refine mix_quiet Keeps.ext 3 rfl (by kernel_rfl) rfl ?_
                  intro ι U hne hU
                  have hcw0 := fun ii => (hU ii).cell x2
                  have hcw1 := fun ii => (hU ii).cell y2
                  go_big_quiet_op
                  clear hU hne hcw0 hcw1 U ι
                  show wpAnyM _ _ _ _ _ _ _ _ _
                  refine mix_quiet Keeps.ext 4 rfl (by kernel_rfl) rfl ?_
                  intro ι U hne hU
                  go_big_quiet_op
                  clear hU hne U ι
                  show wpAnyM _ _ _ _ _ _ _ _ _
                  refine mix_quiet Keeps.ext 5 rfl (by kernel_rfl) rfl ?_
                  intro ι U hne hU
                  go_big_quiet_op
                  clear hU hne U ι
                  show wpAnyM _ _ _ _ _ _ _ _ _
                  refine mix_quiet Keeps.ext 6 rfl (by kernel_rfl) rfl ?_
                  intro ι U hne hU
                  go_big_quiet_op
                  clear hU hne U ι
                  show wpAnyM _ _ _ _ _ _ _ _ _
                  refine mix_quiet Keeps.ext 7 rfl (by kernel_rfl) rfl ?_
                  intro ι U hne hU
                  have hcw0 := fun ii => (hU ii).cell x2
                  have hcw1 := fun ii => (hU ii).cell y2
                  go_big_quiet_op
                  clear hU hne hcw0 hcw1 U ι
                  show wpAnyM _ _ _ _ _ _ _ _ _
                  refine mix_quiet Keeps.ext 8 rfl (by kernel_rfl) rfl ?_
                  intro ι U hne hU
                  go_big_quiet_op
                  clear hU hne U ι
                  show wpAnyM _ _ _ _ _ _ _ _ _
                  refine mix_quiet Keeps.ext 9 rfl (by kernel_rfl) rfl ?_
                  intro ι U hne hU
                  go_big_quiet_op
                  clear hU hne U ι
                  show wpAnyM _ _ _ _ _ _ _ _ _
                  refine mix_end (by kernel_rfl) ?_
                  replace M2 := M2.below b6
                  clear b6
                  by_cases hk2 : k < ln
                  ·
                    have hd4 : decide (k < ln) = true := decide_eq_true hk2
                    have lk := (HXC.out _ M2.b).2
                    have hl9 : lr.length = ln := lk.len
                    have hkr : k < lr.length := by omega
                    have z0 := lk.tab.at hkr
                    have rk := lk.tab.ok lr[k] (List.getElem_mem _)
                    have HR0 := Lib.hid (HX3.out.2 lr[k] (List.getElem_mem _))
                    have HHD : Hid ((List.drop k (Lw.rows ⟨some ⟨b5, o5, none⟩, ln, lc, lr⟩)).head? = some lr[k].l) := Lib.hid (by
                      show (List.drop k (lr.map (·.l))).head? = _
                      rw [List.head?_drop, List.getElem?_map, List.getElem?_eq_getElem hkr]
                      rfl)
                    generalize lr[k] = r at z0 rk HR0 HHD
                    have hcs := rk.cs
                    have HRK := Lib.hid (And.intro rk.len rk.kind)
                    have hr20 := HR0.out
                    have hrle := rk.le
                    have hrmx : r.cap ≤ 9223372036854775807 := rk.max
                    clear lk hkr rk hl9
                    go_upto_region 28 with fail
                    generalize xq = w6 at M2 x2 y2 z0 hcs ⊢
                    have xl2 := lt_cell x2
                    have yl2 := lt_cell y2
                    have zl2 := lt_cell z0
                    have HSZ : Hid (w6.heap.size ≤ w6.heap.size) := Lib.hid (Nat.le_refl _)
                    refine mix_startX (w6.heap.size) none 13 rfl (by kernel_rfl) ?_
                    intro xq hxq
                    replace x2 := Ext.cell hxq x2
                    replace y2 := Ext.cell hxq y2
                    replace z0 := Ext.cell hxq z0
                    replace hcs := Cs.mono hcs hxq (Nat.le_refl _)
                    replace HSZ := Lib.hid (Nat.le_trans (Hid.out HSZ) (Below.size hxq))
                    have b6 := hxq
                    clear hxq
                    refine mix_quiet (Keeps.rx (w6.heap.size) none) 1 rfl (by kernel_rfl) rfl ?_
                    intro ι U hne hU
                    go_big_quiet_op
                    clear hU hne U ι
                    show wpAnyM _ _ _ _ _ _ _ _ _
                    refine mix_quiet (Keeps.rx (w6.heap.size) none) 2 rfl (by kernel_rfl) rfl ?_
                    intro ι U hne hU
                    go_big_quiet_op
                    clear hU hne U ι
                    show wpAnyM _ _ _ _ _ _ _ _ _
                    refine mix_quiet (Keeps.rx (w6.heap.size) none) 3 rfl (by kernel_rfl) rfl ?_
                    intro ι U hne hU
                    go_big_quiet_op
                    clear hU hne U ι
                    show wpAnyM _ _ _ _ _ _ _ _ _
                    refine mix_quiet (Keeps.rx (w6.heap.size) none) 4 rfl (by kernel_rfl) rfl ?_
                    intro ι U hne hU
                    have hcw0 := fun ii => (RX.cell (hU ii) (by exact xl2) (by simp) x2)
                    have hcw1 := fun ii => (RX.cell (hU ii) (by exact yl2) (by simp) y2)
                    have hcw2 := fun ii => (RX.cell (hU ii) (by exact zl2) (by simp) z0)
                    go_big_quiet_op
                    clear hU hne hcw0 hcw1 hcw2 U ι
                    show wpAnyM _ _ _ _ _ _ _ _ _
                    refine mix_quiet (Keeps.rx (w6.heap.size) none) 5 rfl (by kernel_rfl) rfl ?_
                    intro ι U hne hU
                    go_big_quiet_op
                    clear hU hne U ι
                    show wpAnyM _ _ _ _ _ _ _ _ _
                    refine mix_quiet (Keeps.rx (w6.heap.size) none) 6 rfl (by kernel_rfl) rfl ?_
                    intro ι U hne hU
                    go_big_quiet_op
                    clear hU hne U ι
                    show wpAnyM _ _ _ _ _ _ _ _ _
                    refine mix_quiet (Keeps.rx (w6.heap.size) none) 7 rfl (by kernel_rfl) rfl ?_
                    intro ι U hne hU
                    go_big_quiet_op
                    clear hU hne U ι
                    show wpAnyM _ _ _ _ _ _ _ _ _
                    refine mix_quiet (Keeps.rx (w6.heap.size) none) 8 rfl (by kernel_rfl) rfl ?_
                    intro ι U hne hU
                    have hcw0 := fun ii => (RX.cell (hU ii) (by exact xl2) (by simp) x2)
                    have hcw1 := fun ii => (RX.cell (hU ii) (by exact yl2) (by simp) y2)
                    have hcw2 := fun ii => (RX.cell (hU ii) (by exact zl2) (by simp) z0)
                    go_big_quiet_op
                    clear hU hne hcw0 hcw1 hcw2 U ι
                    show wpAnyM _ _ _ _ _ _ _ _ _
                    refine mix_quiet (Keeps.rx (w6.heap.size) none) 9 rfl (by kernel_rfl) rfl ?_
                    intro ι U hne hU
                    go_big_quiet_op
                    clear hU hne U ι
                    show wpAnyM _ _ _ _ _ _ _ _ _
                    refine mix_quiet (Keeps.rx (w6.heap.size) none) 10 rfl (by kernel_rfl) rfl ?_
                    intro ι U hne hU
                    have hcw0 := fun ii => (RX.cell (hU ii) (by exact xl2) (by simp) x2)
                    have hcw1 := fun ii => (RX.cell (hU ii) (by exact yl2) (by simp) y2)
                    have hcw2 := fun ii => (RX.cell (hU ii) (by exact zl2) (by simp) z0)
                    go_big_quiet_op
                    clear hU hne hcw0 hcw1 hcw2 U ι
                    show wpAnyM _ _ _ _ _ _ _ _ _
                    refine mix_any 0 rfl (by kernel_rfl) rfl ?_
                    go_wp2_with (first | (at_make; refine Stop.un ?_) | (at_builtin; refine Stop.un ?_))
                    have hS : OwnV xq (xq.alloc (.cells #[] 38)) (.slice (some ⟨xq.heap.size, 0, none⟩) 0 0) 0 [] := Own.block (Below.refl _ _) rfl (by decide)
                    refine MixPost.mk (RX.ext ((Below.refl xq.heap.size xq).alloc (Nat.le_refl _) _) (Hid.out HSZ)) ?_
                    refine mix_any 11 rfl (by kernel_rfl) rfl ?_
                    go_wp2_with (first | (at_make; refine Stop.un ?_) | (at_builtin; refine Stop.un ?_))
                    refine Stop.mk (app_rsk xq _ _ rfl rfl hS rfl rfl HRK.out.1 (hcs.alloc (.cells #[] 38)) (by omega) ?_)
                    intro a8 c8 w8 O8 g8 k8
                    simp only [Nat.zero_add, List.nil_append] at O8
                    go_wp2_with (first | (at_make; refine Stop.un ?_) | (at_builtin; refine Stop.un ?_))
                    refine MixPost.mk (RX.grown g8 (by have := HSZ.out; simp; omega) (fun k hk => .inl (by have h1 := HSZ.out; have h2 := Option.some.inj hk; omega))) ?_
                    clear g8 k8 hS
                    refine mix_quiet (Keeps.rx (w6.heap.size) none) 12 rfl (by kernel_rfl) rfl ?_
                    intro ι U hne hU
                    go_big_quiet_op
                    clear hU hne U ι
                    show wpAnyM _ _ _ _ _ _ _ _ _
                    refine mix_end (by kernel_rfl) ?_
                    replace M2 := (M2.below b6).below (Own.below O8)
                    have ro : RowOk w8 ⟨some ⟨a8, 0, none⟩, r.n, c8, r.l⟩ := ⟨Own.cs O8, HRK.out.1, owns_le O8.1, owns_max O8.1, HRK.out.2⟩
                    have hrle8 := owns_le O8.1
                    have hrmx8 : c8 ≤ 9223372036854775807 := owns_max O8.1
                    clear b6 O8 x2 y2 z0 hcs HSZ
                    generalize w8 = wz at M2 ro ⊢
                    have HA2 := Lib.hid (asked_any _ M2.G.T)
                    have HP2 := Lib.hid (fun W (B : Below wz.heap.size wz W) => put_some _ _ _ _ _ _ _ _ _ (M2.below B).G ⟨some ⟨a8, 0, none⟩, r.n, c8, r.l⟩ i HNI.out (ro.mono B) (show r.n ≤ 1000000 by omega) (by have := HQ.out; omega))
                    go_wp2_with (first | (at_make; refine Stop.un ?_) | (at_builtin; refine Stop.un ?_))
                    refine HA2.out.mono ?_
                    rintro e3 w9 ⟨rfl, b9⟩
                    have HP3 := Lib.hid (HP2.out w9 b9)
                    replace M2 := M2.below b9
                    clear HA2 HP2 b9
                    go_wp2_with (first | (at_make; refine Stop.un ?_) | (at_builtin; refine Stop.un ?_))
                    refine HP3.out.mono ?_
                    rintro e4 w10 ⟨rfl, H', q', S', v', G', hH', hq', o10⟩
                    have M3 := M2.put o10 G'
                    have HA4 := Lib.hid (asked_any _ G'.T)
                    have HC3 : Hid (hds H' = heads (cur (X.map Lw.rows) (a.set i k))) := Lib.hid (by rw [hH', HC2.out, HHD.out]; rfl)
                    have HQ3 : Hid (q' ≤ 16 + 4 * (c + 1)) := Lib.hid (by have := HQ.out; omega)
                    have hqq : q ≤ 2000 := by have := HQ.out; omega
                    have hd5 : decide ((e : Int) < (q' : Int) - (q : Int)) = false := decide_eq_false (by omega)
                    clear M2 HP3 hH' o10 G' HC2 HQ
                    go_wp2_with (first | (at_make; refine Stop.un ?_) | (at_builtin; refine Stop.un ?_))
                    refine HA4.out.mono ?_
                    rintro e5 w11 ⟨rfl, b11⟩
                    replace M3 := M3.below b11
                    clear HA4 b11
                    go_wp2_with (first | (at_make; refine Stop.un ?_) | (at_builtin; refine Stop.un ?_))
                    go_roundw
                    case rel => exact ⟨c + 1, a.set i k, H', q', S', v', by omega, by go_num, M3, HT2, HC3, HQ3⟩
                    case measure => simp [intOf]; omega
                  ·
                    have hd4 : decide (k < ln) = false := decide_eq_false hk2
                    generalize xq = wz at M2 x2 y2 ⊢
                    have HHD : Hid ((List.drop k (Lw.rows ⟨some ⟨b5, o5, none⟩, ln, lc, lr⟩)).head? = none) := Lib.hid (by
                      have h1 : lr.length = ln := (HXC.out _ M2.b).2.len
                      rw [List.head?_eq_none_iff, List.drop_eq_nil_iff]
                      simp only [Lw.rows, List.length_map]
                      omega)
                    have HA2 := Lib.hid (asked_any _ M2.G.T)
                    have HP2 := Lib.hid (fun W (B : Below wz.heap.size wz W) => put_some _ _ _ _ _ _ _ _ _ (M2.below B).G nilRw i HNI.out (nilRw_ok _) (Nat.zero_le _) (by have := HQ.out; omega))
                    go_wp2_with (first | (at_make; refine Stop.un ?_) | (at_builtin; refine Stop.un ?_))
                    refine HA2.out.mono ?_
                    rintro e3 w9 ⟨rfl, b9⟩
                    have HP3 := Lib.hid (HP2.out w9 b9)
                    replace M2 := M2.below b9
                    clear HA2 HP2 b9
                    go_wp2_with (first | (at_make; refine Stop.un ?_) | (at_builtin; refine Stop.un ?_))
                    refine HP3.out.mono ?_
                    rintro e4 w10 ⟨rfl, H', q', S', v', G', hH', hq', o10⟩
                    have M3 := M2.put o10 G'
                    have HA4 := Lib.hid (asked_any _ G'.T)
                    have HC3 : Hid (hds H' = heads (cur (X.map Lw.rows) (a.set i k))) := Lib.hid (by rw [hH', HC2.out, HHD.out]; rfl)
                    have HQ3 : Hid (q' ≤ 16 + 4 * (c + 1)) := Lib.hid (by have := HQ.out; omega)
                    have hqq : q ≤ 2000 := by have := HQ.out; omega
                    have hd5 : decide ((e : Int) < (q' : Int) - (q : Int)) = false := decide_eq_false (by omega)
                    clear M2 HP3 hH' o10 G' HC2 HQ
                    go_wp2_with (first | (at_make; refine Stop.un ?_) | (at_builtin; refine Stop.un ?_))
                    refine HA4.out.mono ?_
                    rintro e5 w11 ⟨rfl, b11⟩
                    replace M3 := M3.below b11
                    clear HA4 b11
                    go_wp2_with (first | (at_make; refine Stop.un ?_) | (at_builtin; refine Stop.un ?_))
                    go_roundw
                    case rel => exact ⟨c + 1, a.set i k, H', q', S', v', by omega, by go_num, M3, HT2, HC3, HQ3⟩
                    case measure => simp [intOf]; omega
              · obtain rfl : c = 30 * j := by omega
                have HE : Hid (a.length = X.length ∧ ∀ i (h : i < a.length) (hx : i < X.length), a[i] = X[i].n) := Lib.hid ⟨HT.out.len, told_full (by rw [HXX.out.1]; exact HT.out) (fun l hl => (HXX.out.2 l hl).1)⟩
                clear HT HC HQ
                go_wp2_with (first | (at_make; refine Stop.un ?_) | (at_builtin; refine Stop.un ?_))
                go_meet
                exact ⟨a, H, q, S, v, M, HE⟩
          case rest =>
            clear M HT0 HC0 HQ
            obtain ⟨a, H, q, S, v, M, HE⟩ := hcut
            have HB := Lib.hid M.b
            have hal : a.length = j := by rw [HE.out.1, HXX.out.1]
            have HAL := Lib.hid hal
            clear hal
            go_wp2_with (first | (at_make; refine Stop.un ?_) | (at_builtin; refine Stop.un ?_))
            go_loopw [159] (fun iv wr => ∃ i : Nat, i ≤ j ∧ iv = .int .i64 (i : Int) ∧ Below wc.heap.size wc wr) (fun iv _ => j - (intOf iv).toNat)
            case atStart => exact ⟨0, Nat.zero_le _, rfl, Below.refl _ _⟩
            case round =>
              obtain ⟨i, hi, rfl, bw⟩ := hrel
              replace M := M.below bw
              by_cases hlt : i < j
              · have LX := HKX.out.1.mono M.b
                have hx : i < X.length := by have := HXX.out.1; omega
                have ha : i < a.length := by have := HAL.out; omega
                obtain ⟨b, o, rfl⟩ := LX.cs.addr (by rw [lwcells_length]; omega)
                have x0 := LX.at hx
                have lk := LX.ok X[i] (List.getElem_mem _)
                have y0 : wr.cell? ⟨gA, i, none⟩ = some (.int .i64 (X[i].n : Int)) := by rw [← HE.out.2 i ha hx]; exact M.z.cell i (by simp [ha])
                generalize X[i] = l at x0 y0 lk
                have hlc := lk.le
                have hlm : l.cap ≤ 9223372036854775807 := lk.max
                clear LX hx ha lk M
                go_upto_region 36 with fail
                refine mix_startE 10 rfl (by kernel_rfl) ?_
                intro xq hxq
                replace x0 := Ext.cell hxq x0
                replace y0 := Ext.cell hxq y0
                replace bw := Below.next bw hxq
                clear hxq
                refine mix_quiet Keeps.ext 0 rfl (by kernel_rfl) rfl ?_
                intro ι U hne hU
                go_big_quiet_op
                clear hU hne U ι
                show wpAnyM _ _ _ _ _ _ _ _ _
                refine mix_quiet Keeps.ext 1 rfl (by kernel_rfl) rfl ?_
                intro ι U hne hU
                go_big_quiet_op
                clear hU hne U ι
                show wpAnyM _ _ _ _ _ _ _ _ _
                refine mix_quiet Keeps.ext 2 rfl (by kernel_rfl) rfl ?_
                intro ι U hne hU
                go_big_quiet_op
                clear hU hne U ι
                show wpAnyM _ _ _ _ _ _ _ _ _
                refine mix_quiet Keeps.ext 3 rfl (by kernel_rfl) rfl ?_
                intro ι U hne hU
                have hcw0 := fun ii => (hU ii).cell x0
                have hcw1 := fun ii => (hU ii).cell y0
                go_big_quiet_op
                clear hU hne hcw0 hcw1 U ι
                show wpAnyM _ _ _ _ _ _ _ _ _
                refine mix_quiet Keeps.ext 4 rfl (by kernel_rfl) rfl ?_
                intro ι U hne hU
                go_big_quiet_op
                clear hU hne U ι
                show wpAnyM _ _ _ _ _ _ _ _ _
                refine mix_quiet Keeps.ext 5 rfl (by kernel_rfl) rfl ?_
                intro ι U hne hU
                go_big_quiet_op
                clear hU hne U ι
                show wpAnyM _ _ _ _ _ _ _ _ _
                refine mix_quiet Keeps.ext 6 rfl (by kernel_rfl) rfl ?_
                intro ι U hne hU
                go_big_quiet_op
                clear hU hne U ι
                show wpAnyM _ _ _ _ _ _ _ _ _
                refine mix_quiet Keeps.ext 7 rfl (by kernel_rfl) rfl ?_
                intro ι U hne hU
                have hcw0 := fun ii => (hU ii).cell x0
                have hcw1 := fun ii => (hU ii).cell y0
                go_big_quiet_op
                clear hU hne hcw0 hcw1 U ι
                show wpAnyM _ _ _ _ _ _ _ _ _
                refine mix_quiet Keeps.ext 8 rfl (by kernel_rfl) rfl ?_
                intro ι U hne hU
                go_big_quiet_op
                clear hU hne U ι
                show wpAnyM _ _ _ _ _ _ _ _ _
                refine mix_quiet Keeps.ext 9 rfl (by kernel_rfl) rfl ?_
                intro ι U hne hU
                go_big_quiet_op
                clear hU hne U ι
                show wpAnyM _ _ _ _ _ _ _ _ _
                refine mix_end (by kernel_rfl) ?_
                go_wp2_with (first | (at_make; refine Stop.un ?_) | (at_builtin; refine Stop.un ?_))
                go_roundw
                case rel => exact ⟨i + 1, by omega, by go_num, bw⟩
                case measure => simp [intOf]; omega
              · go_wp2_with (first | (at_make; refine Stop.un ?_) | (at_builtin; refine Stop.un ?_))
                go_ret
                exact ⟨by first | rfl | simp, HB.out.next bw⟩
end Go.Proofs.Ytfhlbiddhgkcpaa
