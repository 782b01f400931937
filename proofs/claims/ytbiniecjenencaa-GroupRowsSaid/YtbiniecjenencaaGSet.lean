/- A set of rows that came in, and whether it is small. -/
import Derived.Test.YtbiniecjenencaaGrpC
import Derived.Test.YtbiniecjenencaaOOpen
import Derived.Test.YtbiniecjenencaaShut
set_option linter.unusedVariables false
set_option linter.unusedSimpArgs false
set_option maxRecDepth 10000
namespace Go.Proofs.Ytbiniecjenencaa
open Go.ChangeShapes Go.WideShapes Go.ChangeAt Go.RowKit Go.Joins Go.Deep
/-- A set: where its lists lie, and what they hold. -/
structure GSt where
  ka : Option Addr
  kn : Nat
  kc : Nat
  kinds : List UInt8
  ra : Option Addr
  rn : Nat
  rc : Nat
  rows : List Rw
  ba : Option Addr
  bn : Nat
  bc : Nat
  bs : List Int
  ga : Option Addr
  gn : Nat
  gc : Nat
  ags : List Ag
def GSt.val (x : GSt) : Value := .agg #[.slice x.ka x.kn x.kc, .slice x.ra x.rn x.rc, .slice x.ba x.bn x.bc, .slice x.ga x.gn x.gc]
def GSt.cells (x : GSt) : Array Value := #[.slice x.ka x.kn x.kc, .slice x.ra x.rn x.rc, .slice x.ba x.bn x.bc, .slice x.ga x.gn x.gc]
/-- Its lists lie where it says. -/
structure StOk (w : World) (x : GSt) : Prop where
  k : Cs w x.ka (bcells x.kinds)
  kl : x.kinds.length = x.kn
  km : x.kn ≤ x.kc
  kx : x.kc ≤ maxLen
  r : Tab w x.ra x.rows
  rl : x.rows.length = x.rn
  rm : x.rn ≤ x.rc
  rx : x.rc ≤ maxLen
  b : Cs w x.ba (icells x.bs)
  bl : x.bs.length = x.bn
  bm : x.bn ≤ x.bc
  bx : x.bc ≤ maxLen
  g : Cs w x.ga (agcells x.ags)
  gl : x.ags.length = x.gn
  gm : x.gn ≤ x.gc
  gx : x.gc ≤ maxLen
theorem StOk.mono {w w' : World} {x : GSt} (h : StOk w x) (b : Below w.heap.size w w') : StOk w' x := ⟨h.k.mono b (Nat.le_refl _), h.kl, h.km, h.kx, h.r.mono b, h.rl, h.rm, h.rx, h.b.mono b (Nat.le_refl _), h.bl, h.bm, h.bx, h.g.mono b (Nat.le_refl _), h.gl, h.gm, h.gx⟩
/-- A set is small. -/
structure Few (x : GSt) : Prop where
  k : x.kn ≤ 12
  b : x.bn ≤ 12
  g : x.gn ≤ 12
  r : x.rn ≤ 60
  w : ∀ r ∈ x.rows, r.n ≤ 12
set_option maxRecDepth 100000 in
set_option maxHeartbeats 8000000 in
theorem few_any22 (x : GSt) (w : World) (h : StOk w x) :
    Calls Try.prog 10 #[x.val] w (fun e w' => ∃ q, e = .returned (.bool q) ∧ Below w.heap.size w w' ∧ (q = true → Few x)) := by
  obtain ⟨ka, kn, kc, kinds, ra, rn, rc, rows, ba, bn, bc, bs, ga, gn, gc, ags⟩ := x
  have hkm := h.km
  have hrm := h.rm
  have hbm := h.bm
  have hgm := h.gm
  have hkx := h.kx
  have hrx := h.rx
  have hbx := h.bx
  have hgx := h.gx
  unfold maxLen at hkx hrx hbx hgx
  have hT := h.r
  have HN := Lib.hid h.rl
  simp only at hkm hrm hbm hgm hkx hrx hbx hgx hT HN
  clear h
  have HNO := Lib.hid (fun (w' : World) (b : Below w.heap.size w w') => (⟨false, rfl, b, fun h => by cases h⟩ : ∃ q, Ending.returned (.bool false) = .returned (.bool q) ∧ Below w.heap.size w w' ∧ (q = true → Few ⟨ka, kn, kc, kinds, ra, rn, rc, rows, ba, bn, bc, bs, ga, gn, gc, ags⟩)))
  have z := At.new w #[.slice ka kn kc, .slice ra rn rc, .slice ba bn bc, .slice ga gn gc] 27
  have b0 := (Below.refl w.heap.size w).alloc (Nat.le_refl _) (.cells #[.slice ka kn kc, .slice ra rn rc, .slice ba bn bc, .slice ga gn gc] 27)
  simp only [GSt.val]
  go_enter Try.func10, Try.ntmps10
  go_upto_region 1 with fail
  generalize w.alloc (.cells #[.slice ka kn kc, .slice ra rn rc, .slice ba bn bc, .slice ga gn gc] 27) = wA at z b0 ⊢
  obtain ⟨gz, hgz⟩ : ∃ g, w.heap.size = g := ⟨_, rfl⟩
  rw [hgz] at z ⊢
  clear hgz
  have c0 := z.cell 0 rfl
  have c1 := z.cell 1 rfl
  have c2 := z.cell 2 rfl
  have c3 := z.cell 3 rfl
  by_cases hkn : 12 < kn
  ·
    have dkn : decide ((12 : Int) < (kn : Int)) = true := decide_eq_true (by omega)
    skip
    go_wp2_with (first | (at_make; refine Stop.un ?_) | (at_builtin; refine Stop.un ?_) | (with_reducible refine Stop.conv 22 9 ?_) | (with_reducible refine Stop.conv 9 22 ?_))
    go_ret
    exact HNO.out _ b0
  ·
    have dkn : decide ((12 : Int) < (kn : Int)) = false := decide_eq_false (by omega)
    by_cases hbn : 12 < bn
    ·
      have dbn : decide ((12 : Int) < (bn : Int)) = true := decide_eq_true (by omega)
      skip
      go_wp2_with (first | (at_make; refine Stop.un ?_) | (at_builtin; refine Stop.un ?_) | (with_reducible refine Stop.conv 22 9 ?_) | (with_reducible refine Stop.conv 9 22 ?_))
      go_ret
      exact HNO.out _ b0
    ·
      have dbn : decide ((12 : Int) < (bn : Int)) = false := decide_eq_false (by omega)
      by_cases hgn : 12 < gn
      ·
        have dgn : decide ((12 : Int) < (gn : Int)) = true := decide_eq_true (by omega)
        skip
        go_wp2_with (first | (at_make; refine Stop.un ?_) | (at_builtin; refine Stop.un ?_) | (with_reducible refine Stop.conv 22 9 ?_) | (with_reducible refine Stop.conv 9 22 ?_))
        go_ret
        exact HNO.out _ b0
      ·
        have dgn : decide ((12 : Int) < (gn : Int)) = false := decide_eq_false (by omega)
        by_cases hrn : 60 < rn
        ·
          have drn : decide ((60 : Int) < (rn : Int)) = true := decide_eq_true (by omega)
          skip
          go_wp2_with (first | (at_make; refine Stop.un ?_) | (at_builtin; refine Stop.un ?_) | (with_reducible refine Stop.conv 22 9 ?_) | (with_reducible refine Stop.conv 9 22 ?_))
          go_ret
          exact HNO.out _ b0
        ·
          have drn : decide ((60 : Int) < (rn : Int)) = false := decide_eq_false (by omega)
          have HF := Lib.hid (And.intro (Nat.le_of_not_lt hkn) (And.intro (Nat.le_of_not_lt hbn) (And.intro (Nat.le_of_not_lt hgn) (Nat.le_of_not_lt hrn))))
          go_wp2_with (first | (at_make; refine Stop.un ?_) | (at_builtin; refine Stop.un ?_) | (with_reducible refine Stop.conv 22 9 ?_) | (with_reducible refine Stop.conv 9 22 ?_))
          clear c0 c1 c2 c3
          go_loopw [32] (fun iv wr => ∃ i : Nat, i ≤ rn ∧ iv = .int .i64 (i : Int) ∧ Below w.heap.size w wr ∧ Hid (∀ r ∈ rows.take i, r.n ≤ 12)) (fun iv _ => rn - (intOf iv).toNat)
          case atStart => exact ⟨0, Nat.zero_le _, rfl, b0, Lib.hid (fun r hr => by cases hr)⟩
          case round =>
            clear b0 z
            obtain ⟨i, hi, rfl, b0, HR⟩ := hrel
            by_cases hlt : i < rn
            ·
              have hil : i < rows.length := by have := HN.out; omega
              have t2 := hT.mono b0
              obtain ⟨b, o, rfl⟩ := t2.cs.addr (by rw [rwcells_length]; omega)
              have x0 := t2.at hil
              have ok := t2.ok rows[i] (List.getElem_mem _)
              have HR2 : Hid (rows[i].n ≤ 12 → ∀ r ∈ rows.take (i + 1), r.n ≤ 12) := Lib.hid (fun h r hr => by
                rw [List.take_succ_eq_append_getElem hil] at hr
                rcases List.mem_append.1 hr with hr | hr
                · exact HR.out r hr
                · rw [List.mem_singleton.1 hr]; exact h)
              generalize rows[i] = r at x0 ok HR2
              have hrle := ok.le
              have hrmx : r.cap ≤ 9223372036854775807 := ok.max
              have HOK := Lib.hid ok
              clear hil t2 ok
              by_cases h12 : 12 < r.n
              ·
                have dr : decide ((12 : Int) < (r.n : Int)) = true := decide_eq_true (by omega)
                go_wp2_with (first | (at_make; refine Stop.un ?_) | (at_builtin; refine Stop.un ?_) | (with_reducible refine Stop.conv 22 9 ?_) | (with_reducible refine Stop.conv 9 22 ?_))
                go_ret
                exact HNO.out _ b0
              ·
                have dr : decide ((12 : Int) < (r.n : Int)) = false := decide_eq_false (by omega)
                have HR3 := Lib.hid (HR2.out (by omega))
                clear HR2 HR
                obtain ⟨wo, hwo⟩ : ∃ wo, wo = wr := ⟨_, rfl⟩
                subst hwo
                go_wp2_with (first | (at_make; refine Stop.un ?_) | (at_builtin; refine Stop.un ?_) | (with_reducible refine Stop.conv 22 9 ?_) | (with_reducible refine Stop.conv 9 22 ?_))
                go_loopw [41] (fun iv wr => ∃ q : Nat, q ≤ r.n ∧ iv = .int .i64 (q : Int) ∧ Below wo.heap.size wo wr) (fun iv _ => r.n - (intOf iv).toNat)
                case atStart => exact ⟨0, Nat.zero_le _, rfl, Below.refl _ _⟩
                case round =>
                  obtain ⟨q, hq, rfl, b1⟩ := hrel
                  by_cases hqn : q < r.n
                  ·
                    have ok2 := HOK.out.mono b1
                    have hql : q < r.l.length := by have := ok2.len; omega
                    have ocs := ok2.cs
                    obtain ⟨vb, vo, hra⟩ := ocs.addr (by rw [vcells_length]; omega)
                    rw [hra] at ocs
                    obtain ⟨y0, y1, y2⟩ := ocs.vat hql
                    generalize r.l[q] = v at y0 y1 y2
                    obtain ⟨vk, vn, vs⟩ := v
                    simp only at y0 y1 y2
                    have b3 := b1.next ((Below.refl wr.heap.size wr).alloc (Nat.le_refl _) (.cells #[.int .u8 vk, .int .i64 vn, .string vs] 38))
                    have HRA := Lib.hid hra
                    clear hql ocs ok2
                    obtain ⟨ra2, hra2⟩ : ∃ a, r.a = a := ⟨_, rfl⟩
                    rw [hra] at hra2
                    subst hra2
                    skip
                    by_cases h2 : 200 < vs.size
                    ·
                      have d2 : (200 : Int) < vs.size := by omega
                      go_wp2_with (first | (at_make; refine Stop.un ?_) | (at_builtin; refine Stop.un ?_) | (with_reducible refine Stop.conv 22 9 ?_) | (with_reducible refine Stop.conv 9 22 ?_))
                      go_ret
                      exact HNO.out _ (b0.next b3)
                    ·
                      have d2 : ¬ (200 : Int) < vs.size := by omega
                      go_wp2_with (first | (at_make; refine Stop.un ?_) | (at_builtin; refine Stop.un ?_) | (with_reducible refine Stop.conv 22 9 ?_) | (with_reducible refine Stop.conv 9 22 ?_))
                      go_roundw
                      case rel => exact ⟨q + 1, by omega, by go_num, b3⟩
                      case measure => simp [intOf]; omega
                  ·
                    have b9 := b0.next b1
                    go_wp2_with (first | (at_make; refine Stop.un ?_) | (at_builtin; refine Stop.un ?_) | (with_reducible refine Stop.conv 22 9 ?_) | (with_reducible refine Stop.conv 9 22 ?_))
                    go_roundw
                    case rel => exact ⟨i + 1, by omega, by go_num, b9, HR3⟩
                    case measure => simp [intOf]; omega
            ·
              have HALL : Hid (∀ r ∈ rows, r.n ≤ 12) := Lib.hid (fun r hr => HR.out r (by rw [List.take_of_length_le (by have := HN.out; omega)]; exact hr))
              clear HR
              go_wp2_with (first | (at_make; refine Stop.un ?_) | (at_builtin; refine Stop.un ?_) | (with_reducible refine Stop.conv 22 9 ?_) | (with_reducible refine Stop.conv 9 22 ?_))
              go_ret
              exact ⟨true, by first | rfl | simp, b0, fun _ => ⟨HF.out.1, HF.out.2.1, HF.out.2.2.1, HF.out.2.2.2, HALL.out⟩⟩
/-! A set that came in. -/
theorem Try.cellsAg : Try.prog.cellsOf 34 = 2 := by kernel_rfl
theorem Try.cellsSet : Try.prog.cellsOf 27 = 4 := by kernel_rfl
theorem open_agF {H : Type} {enc : TypeId × Value → H} {W : World} {t : TypeId} (ht : Try.prog.underlying t = some (.slice 34)) {fuel : Nat} {a : Option Addr} {len cap : Nat} {x : DataW H × List MemPlace} (hf : DataW.trod enc Try.prog W 0 (fun _ => true) true fuel t [.slice a len cap] = some x) :
    ∃ l : List Ag, Cs W a (agcells l) ∧ l.length = len ∧ len ≤ cap ∧ cap ≤ maxLen := by
  rcases open_slice ht hf with ⟨hcs, _⟩ | ⟨x, l, c, m, n, D, Pl, hcs, _, hl, hm, hmm, hx, hi⟩
  · simp at hcs
    obtain ⟨rfl, rfl, rfl⟩ := hcs
    exact ⟨[], Cs.nil _ _, rfl, Nat.le_refl _, Nat.zero_le _⟩
  · simp at hcs
    obtain ⟨rfl, rfl, rfl⟩ := hcs
    simp only [if_true] at hmm
    subst hmm
    rw [Try.cellsAg] at hi
    have one : ∀ i, i < m → ∃ v : Ag, W.cell? (x.add (i * 2)) = some (.int .u8 v.op) ∧ W.cell? ((x.add (i * 2)).add 1) = some (.int .i64 v.col) := by
      intro i him
      obtain ⟨cs', hc, htt⟩ := hi i him
      obtain ⟨_, hcl, hat⟩ := World.cells?_some hc
      obtain ⟨y0, y1, n', hx, _, h0, h1⟩ := trod_struct2 Try.underlying34 htt
      match cs', hcl with
      | [c0, c1], _ =>
        have k0 : Try.prog.cellsOf 5 = 1 := by kernel_rfl
        have k1 : Try.prog.cellsOf 3 = 1 := by kernel_rfl
        simp only [k0, List.drop_zero, List.take_succ_cons, List.take_zero] at h0
        simp only [k1, List.drop_succ_cons, List.drop_zero, List.take_succ_cons, List.take_zero] at h1
        obtain ⟨q, e1, _, w1⟩ := DataW.trod_int Try.underlying5 h0
        obtain ⟨d, e2, _, w2⟩ := DataW.trod_int Try.underlying3 h1
        simp only [List.cons.injEq, and_true] at e1 e2
        subst e1 e2
        have t0 := hat 0 (by omega)
        have t1 := hat 1 (by omega)
        exact ⟨⟨q, d⟩, by simpa [Addr.add] using t0, t1⟩
    have hsp : 0 < len → x.spot = none := fun h0 => by
      obtain ⟨v, h, _⟩ := one 0 (by omega)
      simpa [Addr.add] using World.cell?_spot h
    obtain ⟨xb, xo, spot⟩ := x
    have pick : ∃ f : Nat → Ag, ∀ i, i < m → W.cell? ((⟨xb, xo, spot⟩ : Addr).add (i * 2)) = some (.int .u8 (f i).op) ∧ W.cell? (((⟨xb, xo, spot⟩ : Addr).add (i * 2)).add 1) = some (.int .i64 (f i).col) :=
      ⟨fun i => if h : i < m then (one i h).choose else Ag.mk 0 0, fun i h => by simp only [h, dif_pos]; exact (one i h).choose_spec⟩
    obtain ⟨f, hfi⟩ := pick
    refine ⟨(List.range len).map f, ?_, by simp, hl, hm⟩
    intro q u hu
    have hq : q < len * 2 := by
      have := (List.getElem?_eq_some_iff.1 hu).1
      rw [agcells_length] at this; simpa using this
    obtain rfl := hsp (by omega)
    refine ⟨xb, xo, rfl, ?_⟩
    obtain ⟨i, r, hr3, rfl⟩ : ∃ i r, r < 2 ∧ q = i * 2 + r := ⟨q / 2, q % 2, by omega, by omega⟩
    have hi3 : i < len := by omega
    obtain ⟨c0, c1⟩ := hfi i (by omega)
    have hg := agcells_get ((List.range len).map f) i (by simpa using hi3)
    simp only [List.getElem_map, List.getElem_range] at hg
    rw [Addr.add_lit] at c0 c1
    rw [Addr.add_lit] at c1
    match r, hr3 with
    | 0, _ => rw [Nat.add_zero, hg.1] at hu; rw [Nat.add_zero, c0]; exact hu
    | 1, _ => rw [hg.2] at hu; rw [← Nat.add_assoc, c1]; exact hu
/-- Numbers of one kind that came in. -/
theorem open_nF {H : Type} {enc : TypeId × Value → H} {W : World} {t e : TypeId} {k : IntKind} (ht : Try.prog.underlying t = some (.slice e)) (he : Try.prog.underlying e = some (.int k)) (hc : Try.prog.cellsOf e = 1) {fuel : Nat} {a : Option Addr} {len cap : Nat} {x : DataW H × List MemPlace} (hf : DataW.trod enc Try.prog W 0 (fun _ => true) true fuel t [.slice a len cap] = some x) :
    ∃ zs : List Int, Cs W a (zs.map (Value.int k)) ∧ zs.length = len ∧ len ≤ cap ∧ cap ≤ maxLen ∧ ∀ n ∈ zs, (Lit.int k n).wf = true := by
  rcases open_ints ht he hc hf with ⟨hcs, _⟩ | ⟨x, l, c, zs, hcs, _, hl, hm, hz, hx, hcell, hwz⟩
  · simp at hcs
    obtain ⟨rfl, rfl, rfl⟩ := hcs
    exact ⟨[], Cs.nil _ _, rfl, Nat.le_refl _, Nat.zero_le _, fun _ h => by cases h⟩
  · simp at hcs
    obtain ⟨rfl, rfl, rfl⟩ := hcs
    simp only [if_true] at hz
    refine ⟨zs.take len, ?_, by rw [List.length_take]; omega, hl, hm, fun n hn => hwz n (List.mem_of_mem_take hn)⟩
    intro i u hu
    have hi : i < len := by
      have := (List.getElem?_eq_some_iff.1 hu).1
      simp at this; omega
    have h0 := hcell 0 (by omega)
    obtain ⟨xb, xo, spot⟩ := x
    have hspot : spot = none := by simpa [Addr.add] using World.cell?_spot h0
    subst hspot
    refine ⟨xb, xo, rfl, ?_⟩
    have hci := hcell i (by omega)
    rw [Addr.add_lit] at hci
    rw [hci]
    have e1 : ((zs.take len).map (Value.int k))[i]? = some (.int k (zs.getD i 0)) := by
      simp [hi, List.getD, show i < zs.length by omega]
    rw [e1] at hu
    exact hu
/-- Numbers of 8 bits as bytes. -/
theorem bytes_ofG (zs : List Int) (h : ∀ n ∈ zs, (Lit.int .u8 n).wf = true) : bcells (zs.map (fun z => UInt8.ofNat z.toNat)) = zs.map (Value.int .u8) := by
  unfold bcells
  rw [List.map_map]
  refine List.map_congr_left (fun z hz => ?_)
  obtain ⟨h0, h1⟩ := bounds_u8 (h z hz)
  show Value.int .u8 (((UInt8.ofNat z.toNat).toNat : Nat) : Int) = _
  simp [Nat.mod_eq_of_lt (show z.toNat < 256 by omega), Int.toNat_of_nonneg h0]
theorem slice_of {P : Program} {H : Type} {enc : TypeId × Value → H} {W : World} {t e : TypeId} (ht : P.underlying t = some (.slice e)) {fuel : Nat} {v : Value} {x : DataW H × List MemPlace} (hf : DataW.trod enc P W 0 (fun _ => true) true fuel t [v] = some x) : ∃ a l c, v = .slice a l c := by
  rcases open_slice ht hf with ⟨h1, _⟩ | ⟨a', l', c', _, _, _, _, h1, _⟩
  · exact ⟨_, _, _, by simpa using h1⟩
  · exact ⟨_, _, _, by simpa using h1⟩
theorem open_set {H : Type} {enc : TypeId × Value → H} {W : World} {v : Value} {d : DataW H} {p : List MemPlace} {r : Reach} {b0 : Nat} (hv : Value.okWide Try.prog W r b0 27 v) (h : DataW.Trod enc Try.prog W 0 (fun _ => true) true 27 v d p) :
    ∃ x : GSt, v = x.val ∧ StOk W x ∧ ∀ r ∈ x.rows, ∀ u ∈ r.l, u.ok := by
  obtain ⟨v0, v1, v2, v3, y0, y1, y2, y3, n, rfl, _, _, h0, h1, h2, h3⟩ := open_agg4 Try.underlying27 (by kernel_rfl) Try.cellsSet hv h
  obtain ⟨a0, l0, c0, rfl⟩ := slice_of Try.underlying22 h0
  obtain ⟨a1, l1, c1, rfl⟩ := slice_of Try.underlying23 h1
  obtain ⟨a2, l2, c2, rfl⟩ := slice_of Try.underlying24 h2
  obtain ⟨a3, l3, c3, rfl⟩ := slice_of Try.underlying25 h3
  obtain ⟨zs, k1, k2, k3, k4, k5⟩ := open_nF Try.underlying22 Try.underlying5 (by kernel_rfl) h0
  obtain ⟨rs, r1, r2, r3, r4, r5⟩ := open_rF Try.underlying23 h1
  obtain ⟨bs, b1, b2, b3, b4, b5⟩ := open_nF Try.underlying24 Try.underlying3 (by kernel_rfl) h2
  obtain ⟨gs, g1, g2, g3, g4⟩ := open_agF Try.underlying25 h3
  refine ⟨⟨a0, l0, c0, zs.map (fun z => UInt8.ofNat z.toNat), a1, l1, c1, rs, a2, l2, c2, bs, a3, l3, c3, gs⟩, rfl, ⟨by rw [bytes_ofG zs k5]; exact k1, by rw [List.length_map]; exact k2, k3, k4, r1, r2, r3, r4, b1, b2, b3, b4, g1, g2, g3, g4⟩, fun r hr u hu => r5 r hr u hu⟩
end Go.Proofs.Ytbiniecjenencaa
